/- The walk of gromalaw04.CrossSlopes. Conditions: the numbers are ints and numbers of 256 bits. -/
import Derived.Test.YtlcbomjdbdgbmaaCrX
import Derived.Test.YtlcbomjdbdgbmaaCr8
namespace Go.Proofs.Ytlcbomjdbdgbmaa
open Go.RowKit

theorem alCrW_0 : AllocRuns Try.prog 28 #[.bool false, .slice none 0 0] := fun w => by kernel_rfl

def cslB (ax : Int) (ay : Int) (bx : Int) (b_y : Int) (cx : Int) (cy : Int) (dx : Int) (dy : Int) : Bool := (bif (crR ax ay bx b_y) then (bif (crR cx cy dx dy) then (bif ((slp ax ay bx b_y cx cy dx dy) == (((((wrap64 ((hgx cx cy dx dy) - (lwx cx cy dx dy)))) * ((wrap64 ((hgy ax ay bx b_y) - (lwy ax ay bx b_y))))) - (((wrap64 ((hgy cx cy dx dy) - (lwy cx cy dx dy)))) * ((wrap64 ((hgx ax ay bx b_y) - (lwx ax ay bx b_y)))))).sign)) then (bif ((slp cx cy dx dy ax ay bx b_y) == (wrap64 (-(slp ax ay bx b_y cx cy dx dy)))) then true else false) else false) else (bif ((slp ax ay bx b_y cx cy dx dy) == 0) then true else false)) else (bif ((slp ax ay bx b_y cx cy dx dy) == 0) then true else false))

set_option maxRecDepth 100000 in
set_option maxHeartbeats 4000000 in

theorem CSlopes_is (ax : Int) (ay : Int) (bx : Int) (b_y : Int) (cx : Int) (cy : Int) (dx : Int) (dy : Int)  (R0 : Bool) (hR0 : cslB ax ay bx b_y cx cy dx dy = R0) (_iax : In64 ax) (_iay : In64 ay) (_ibx : In64 bx) (_ib_y : In64 b_y) (_icx : In64 cx) (_icy : In64 cy) (_idx : In64 dx) (_idy : In64 dy)  (w : World)  :
    Calls Try.prog 12 #[.agg #[.int .i64 ax, .int .i64 ay, .int .i64 bx, .int .i64 b_y], .agg #[.int .i64 cx, .int .i64 cy, .int .i64 dx, .int .i64 dy]] w fun e w' => e = .returned (.bool R0) ∧ Below w.heap.size w w' := by

  have HR0 := Lib.hid hR0
  clear hR0
  go_enter Try.func12, Try.ntmps12
  go_wp2_with fail
  first | refine calls_w ?_ | refine name_world ?_ | refine list_world ?_ | refine post_world ?_
  intro V1 hV1
  have hn : Below w.heap.size w V1 := by rw [hV1]; exact below_a2 _ _ _
  have nhb0 := hn
  have k1 : Blk V1 w.heap.size #[.int .i64 ax, .int .i64 ay, .int .i64 bx, .int .i64 b_y] 50 := by rw [hV1]; exact ((Blk.new _ _ _).alloc _)
  have k2 : Blk V1 (w.heap.size + 1) #[.int .i64 cx, .int .i64 cy, .int .i64 dx, .int .i64 dy] 50 := by rw [hV1]; exact (Blk.new1 _ _ _ _)
  clear hV1
  have hb0 := nhb0
  clear nhb0
  obtain ⟨r1, hr1⟩ : ∃ o_o : Int, slp ax ay bx b_y cx cy dx dy = o_o := ⟨_, rfl⟩
  have Hr1 := Lib.hid hr1
  clear hr1
  refine (Slope_is ax ay bx b_y cx cy dx dy r1 Hr1.out _iax _iay _ibx _ib_y _icx _icy _idx _idy  _).mono ?_
  rintro e U2 ⟨rfl, hn⟩
  replace k1 := k1.of hn
  replace k2 := k2.of hn
  replace hb0 := hb0.trans (hn.mono hb0.size)
  clear hn
  have c1_0 : U2.cell? ⟨w.heap.size, 0, none⟩ = some (.int .i64 ax) := k1.cell 0
  have c1_1 : U2.cell? ⟨w.heap.size, 1, none⟩ = some (.int .i64 ay) := k1.cell 1
  have c1_2 : U2.cell? ⟨w.heap.size, 2, none⟩ = some (.int .i64 bx) := k1.cell 2
  have c1_3 : U2.cell? ⟨w.heap.size, 3, none⟩ = some (.int .i64 b_y) := k1.cell 3
  have l1 := k1.lt
  go_wp2_with fail
  clear c1_0 c1_1 c1_2 c1_3 l1
  obtain ⟨z2, hz2⟩ : ∃ o_o : Bool, crR ax ay bx b_y = o_o := ⟨_, rfl⟩
  have Hz2 := Lib.hid hz2
  clear hz2
  refine (cright_is ax ay bx b_y z2 Hz2.out _iax _iay _ibx _ib_y  _).mono ?_
  rintro e U3 ⟨rfl, hn⟩
  replace k1 := k1.of hn
  replace k2 := k2.of hn
  replace hb0 := hb0.trans (hn.mono hb0.size)
  clear hn
  cases z2
  · obtain ⟨z3, hz3⟩ : ∃ o_o : Bool, (r1 == 0) = o_o := ⟨_, rfl⟩
    cases z3
    · have nz3 : ¬ r1 = 0 := by simpa using hz3
      have e0 : false = R0 := by rw [← HR0.out]; unfold cslB; (try rw [Hr1.out]); (try rw [Hz2.out]); (try rw [hz3]); all_goals first | rfl | simp
      subst e0
      go_wp2
      first | go_ret | go_ret2
      exact ⟨by first | rfl | simp, hb0⟩
    · obtain rfl : r1 = 0 := by simpa using hz3
      clear hz3
      go_wp2_with fail
      refine (cawake_any _).mono ?_
      rintro e U4 ⟨rfl, hn⟩
      replace k1 := k1.of hn
      replace k2 := k2.of hn
      replace hb0 := hb0.trans (hn.mono hb0.size)
      clear hn
      have e0 : true = R0 := by rw [← HR0.out]; unfold cslB; (try rw [Hr1.out]); (try rw [Hz2.out]); all_goals first | rfl | simp
      subst e0
      go_wp2
      first | go_ret | go_ret2
      exact ⟨by first | rfl | simp, hb0⟩
  · have c2_0 : U3.cell? ⟨(w.heap.size + 1), 0, none⟩ = some (.int .i64 cx) := k2.cell 0
    have c2_1 : U3.cell? ⟨(w.heap.size + 1), 1, none⟩ = some (.int .i64 cy) := k2.cell 1
    have c2_2 : U3.cell? ⟨(w.heap.size + 1), 2, none⟩ = some (.int .i64 dx) := k2.cell 2
    have c2_3 : U3.cell? ⟨(w.heap.size + 1), 3, none⟩ = some (.int .i64 dy) := k2.cell 3
    have l2 := k2.lt
    go_wp2_with fail
    clear c2_0 c2_1 c2_2 c2_3 l2
    obtain ⟨z4, hz4⟩ : ∃ o_o : Bool, crR cx cy dx dy = o_o := ⟨_, rfl⟩
    have Hz4 := Lib.hid hz4
    clear hz4
    refine (cright_is cx cy dx dy z4 Hz4.out _icx _icy _idx _idy  _).mono ?_
    rintro e U5 ⟨rfl, hn⟩
    replace k1 := k1.of hn
    replace k2 := k2.of hn
    replace hb0 := hb0.trans (hn.mono hb0.size)
    clear hn
    cases z4
    · obtain ⟨z5, hz5⟩ : ∃ o_o : Bool, (r1 == 0) = o_o := ⟨_, rfl⟩
      cases z5
      · have nz5 : ¬ r1 = 0 := by simpa using hz5
        have e0 : false = R0 := by rw [← HR0.out]; unfold cslB; (try rw [Hr1.out]); (try rw [Hz2.out]); (try rw [Hz4.out]); (try rw [hz5]); all_goals first | rfl | simp
        subst e0
        go_wp2
        first | go_ret | go_ret2
        exact ⟨by first | rfl | simp, hb0⟩
      · obtain rfl : r1 = 0 := by simpa using hz5
        clear hz5
        go_wp2_with fail
        refine (cawake_any _).mono ?_
        rintro e U6 ⟨rfl, hn⟩
        replace k1 := k1.of hn
        replace k2 := k2.of hn
        replace hb0 := hb0.trans (hn.mono hb0.size)
        clear hn
        have e0 : true = R0 := by rw [← HR0.out]; unfold cslB; (try rw [Hr1.out]); (try rw [Hz2.out]); (try rw [Hz4.out]); all_goals first | rfl | simp
        subst e0
        go_wp2
        first | go_ret | go_ret2
        exact ⟨by first | rfl | simp, hb0⟩
    · have c1_0 : U5.cell? ⟨w.heap.size, 0, none⟩ = some (.int .i64 ax) := k1.cell 0
      have c1_1 : U5.cell? ⟨w.heap.size, 1, none⟩ = some (.int .i64 ay) := k1.cell 1
      have c1_2 : U5.cell? ⟨w.heap.size, 2, none⟩ = some (.int .i64 bx) := k1.cell 2
      have c1_3 : U5.cell? ⟨w.heap.size, 3, none⟩ = some (.int .i64 b_y) := k1.cell 3
      have l1 := k1.lt
      go_wp2_with fail
      clear c1_0 c1_1 c1_2 c1_3 l1
      obtain ⟨r6, hr6⟩ : ∃ o_o : Int, lwx ax ay bx b_y = o_o := ⟨_, rfl⟩
      have Hr6 := Lib.hid hr6
      clear hr6
      obtain ⟨r7, hr7⟩ : ∃ o_o : Int, lwy ax ay bx b_y = o_o := ⟨_, rfl⟩
      have Hr7 := Lib.hid hr7
      clear hr7
      obtain ⟨r8, hr8⟩ : ∃ o_o : Int, hgx ax ay bx b_y = o_o := ⟨_, rfl⟩
      have Hr8 := Lib.hid hr8
      clear hr8
      obtain ⟨r9, hr9⟩ : ∃ o_o : Int, hgy ax ay bx b_y = o_o := ⟨_, rfl⟩
      have Hr9 := Lib.hid hr9
      clear hr9
      refine (Ends_is ax ay bx b_y r6 r7 r8 r9 Hr6.out Hr7.out Hr8.out Hr9.out _iax _iay _ibx _ib_y  _).mono ?_
      rintro e U7 ⟨rfl, hn⟩
      replace k1 := k1.of hn
      replace k2 := k2.of hn
      replace hb0 := hb0.trans (hn.mono hb0.size)
      clear hn
      have c2_0 : U7.cell? ⟨(w.heap.size + 1), 0, none⟩ = some (.int .i64 cx) := k2.cell 0
      have c2_1 : U7.cell? ⟨(w.heap.size + 1), 1, none⟩ = some (.int .i64 cy) := k2.cell 1
      have c2_2 : U7.cell? ⟨(w.heap.size + 1), 2, none⟩ = some (.int .i64 dx) := k2.cell 2
      have c2_3 : U7.cell? ⟨(w.heap.size + 1), 3, none⟩ = some (.int .i64 dy) := k2.cell 3
      have l2 := k2.lt
      have l2_0 : w.heap.size < U7.heap.size := by have := k2.lt; omega
      go_wp2_with fail
      clear c2_0 c2_1 c2_2 c2_3 l2 l2_0
      first | refine calls_w ?_ | refine name_world ?_ | refine list_world ?_ | refine post_world ?_
      intro V8 hV8
      have D1 := Lib.hid k1.lt
      have D2 := Lib.hid k2.lt
      have D3 := Lib.hid hb0.size
      have hn : Below U7.heap.size U7 V8 := by rw [hV8]; exact below_a2 _ _ _
      have nk1 := k1.of hn
      have nk2 := k2.of hn
      have nhb0 := hb0.trans (hn.mono hb0.size)
      clear hn
      have k3 : Blk V8 U7.heap.size #[.int .i64 r6, .int .i64 r7] 24 := by rw [hV8]; exact ((Blk.new _ _ _).alloc _)
      have k4 : Blk V8 (U7.heap.size + 1) #[.int .i64 r8, .int .i64 r9] 24 := by rw [hV8]; exact (Blk.new1 _ _ _ _)
      clear k1 k2
      clear hb0
      clear hV8
      have k1 := nk1
      clear nk1
      have k2 := nk2
      clear nk2
      have hb0 := nhb0
      clear nhb0
      obtain ⟨r10, hr10⟩ : ∃ o_o : Int, lwx cx cy dx dy = o_o := ⟨_, rfl⟩
      have Hr10 := Lib.hid hr10
      clear hr10
      obtain ⟨r11, hr11⟩ : ∃ o_o : Int, lwy cx cy dx dy = o_o := ⟨_, rfl⟩
      have Hr11 := Lib.hid hr11
      clear hr11
      obtain ⟨r12, hr12⟩ : ∃ o_o : Int, hgx cx cy dx dy = o_o := ⟨_, rfl⟩
      have Hr12 := Lib.hid hr12
      clear hr12
      obtain ⟨r13, hr13⟩ : ∃ o_o : Int, hgy cx cy dx dy = o_o := ⟨_, rfl⟩
      have Hr13 := Lib.hid hr13
      clear hr13
      refine (Ends_is cx cy dx dy r10 r11 r12 r13 Hr10.out Hr11.out Hr12.out Hr13.out _icx _icy _idx _idy  _).mono ?_
      rintro e U9 ⟨rfl, hn⟩
      replace k1 := k1.of hn
      replace k2 := k2.of hn
      replace k3 := k3.of hn
      replace k4 := k4.of hn
      replace hb0 := hb0.trans (hn.mono hb0.size)
      clear hn
      go_wp2_with fail
      first | refine calls_w ?_ | refine name_world ?_ | refine list_world ?_ | refine post_world ?_
      intro V10 hV10
      have D4 := Lib.hid k1.lt
      have D5 := Lib.hid k2.lt
      have D6 := Lib.hid k3.lt
      have D7 := Lib.hid k4.lt
      have D8 := Lib.hid hb0.size
      have hn : Below U9.heap.size U9 V10 := by rw [hV10]; exact below_a2 _ _ _
      have nk1 := k1.of hn
      have nk2 := k2.of hn
      have nk3 := k3.of hn
      have nk4 := k4.of hn
      have nhb0 := hb0.trans (hn.mono hb0.size)
      clear hn
      have k5 : Blk V10 U9.heap.size #[.int .i64 r10, .int .i64 r11] 24 := by rw [hV10]; exact ((Blk.new _ _ _).alloc _)
      have k6 : Blk V10 (U9.heap.size + 1) #[.int .i64 r12, .int .i64 r13] 24 := by rw [hV10]; exact (Blk.new1 _ _ _ _)
      clear k1 k2 k3 k4
      clear hb0
      clear hV10
      have k1 := nk1
      clear nk1
      have k2 := nk2
      clear nk2
      have k3 := nk3
      clear nk3
      have k4 := nk4
      clear nk4
      have hb0 := nhb0
      clear nhb0
      obtain ⟨r14, hr14⟩ : ∃ o_o : Int, (wrap64 (r12 - r10)) = o_o := ⟨_, rfl⟩
      have Hr14 := Lib.hid hr14
      clear hr14
      obtain ⟨r15, hr15⟩ : ∃ o_o : Int, (wrap64 (r9 - r7)) = o_o := ⟨_, rfl⟩
      have Hr15 := Lib.hid hr15
      clear hr15
      obtain ⟨r16, hr16⟩ : ∃ o_o : Int, r14 * r15 = o_o := ⟨_, rfl⟩
      have Hr16 := Lib.hid hr16
      clear hr16
      have c3_1 : V10.cell? ⟨U7.heap.size, 1, none⟩ = some (.int .i64 r7) := k3.cell 1
      have l3 := k3.lt
      have c4_1 : V10.cell? ⟨(U7.heap.size + 1), 1, none⟩ = some (.int .i64 r9) := k4.cell 1
      have l4 := k4.lt
      have c5_0 : V10.cell? ⟨U9.heap.size, 0, none⟩ = some (.int .i64 r10) := k5.cell 0
      have l5 := k5.lt
      have c6_0 : V10.cell? ⟨(U9.heap.size + 1), 0, none⟩ = some (.int .i64 r12) := k6.cell 0
      have l6 := k6.lt
      have Kk1 := Lib.hid k1
      clear k1
      have Kk2 := Lib.hid k2
      clear k2
      have Kk3 := Lib.hid k3
      clear k3
      have Kk4 := Lib.hid k4
      clear k4
      have Kk5 := Lib.hid k5
      clear k5
      have Kk6 := Lib.hid k6
      clear k6
      refine wp_region_float1 14 13 [(true, 0), (true, 1), (true, 2), (true, 3), (true, 4), (true, 6), (true, 7), (true, 8), (true, 9), (true, 10), (false, 5), (false, 11), (false, 12)] (by kernel_rfl) (by kernel_rfl) (fun _ _ d _ _ => by cases d <;> exact Iff.rfl) rfl rfl rfl alCrW_0 ?_
      have hb : Below V10.heap.size V10 V10.drew := (Below.refl _ _).drew
      iterate 10
        refine wpF_take rfl rfl ?_
        go_big_quiet_step (rfl)
        refine wpQuiet_nil ?_
      refine wpF_do rfl ?_
      intro w1 hg K hK
      replace hb := hb.trans (hg.mono hb.size)
      try replace HB1 := Lib.hid (HB1.out.of hg); try replace HB2 := Lib.hid (HB2.out.of hg); try replace HB3 := Lib.hid (HB3.out.of hg)
      clear hg
      go_wp2_with ((first | (go_at_call 66; (with_reducible refine (bigOf_v (wrap64 (r12 - r10)) r14 Hr14.out (wrap64_in _) _).mono ?_); rintro e w2 ⟨v_, rfl, hbm, hn⟩; have HB1 := Lib.hid hbm; have hvm := hbm.shape; clear hbm; obtain ⟨bn1, ba1, bl1, bc1, rfl⟩ := hvm) | (go_at_call 66; (with_reducible refine (bigOf_v (wrap64 (r9 - r7)) r15 Hr15.out (wrap64_in _) _).mono ?_); rintro e w2 ⟨v_, rfl, hbm, hn⟩; replace HB1 := Lib.hid (HB1.out.of hn); have HB2 := Lib.hid hbm; have hvm := hbm.shape; clear hbm; obtain ⟨bn2, ba2, bl2, bc2, rfl⟩ := hvm) | (go_at_call 65; (with_reducible refine (bigMul_v (.agg #[.bool bn1, .slice ba1 bl1 bc1]) (.agg #[.bool bn2, .slice ba2 bl2 bc2]) r14 r15 r16 5 5 Hr16.out _ HB1.out HB2.out (by decide)).mono ?_); rintro e w2 ⟨v_, rfl, hbm, hn⟩; replace HB1 := Lib.hid (HB1.out.of hn); replace HB2 := Lib.hid (HB2.out.of hn); have HB3 := Lib.hid hbm; have hvm := hbm.shape; clear hbm; obtain ⟨bn3, ba3, bl3, bc3, rfl⟩ := hvm)))
      refine hK.out _ _ hn ?_
      replace hb := hb.trans (hn.mono hb.size)
      clear hK K
      clear hn
      refine wpF_do rfl ?_
      intro w1 hg K hK
      replace hb := hb.trans (hg.mono hb.size)
      try replace HB1 := Lib.hid (HB1.out.of hg); try replace HB2 := Lib.hid (HB2.out.of hg); try replace HB3 := Lib.hid (HB3.out.of hg)
      clear hg
      go_wp2_with ((first | (go_at_call 66; (with_reducible refine (bigOf_v (wrap64 (r12 - r10)) r14 Hr14.out (wrap64_in _) _).mono ?_); rintro e w2 ⟨v_, rfl, hbm, hn⟩; have HB1 := Lib.hid hbm; have hvm := hbm.shape; clear hbm; obtain ⟨bn1, ba1, bl1, bc1, rfl⟩ := hvm) | (go_at_call 66; (with_reducible refine (bigOf_v (wrap64 (r9 - r7)) r15 Hr15.out (wrap64_in _) _).mono ?_); rintro e w2 ⟨v_, rfl, hbm, hn⟩; replace HB1 := Lib.hid (HB1.out.of hn); have HB2 := Lib.hid hbm; have hvm := hbm.shape; clear hbm; obtain ⟨bn2, ba2, bl2, bc2, rfl⟩ := hvm) | (go_at_call 65; (with_reducible refine (bigMul_v (.agg #[.bool bn1, .slice ba1 bl1 bc1]) (.agg #[.bool bn2, .slice ba2 bl2 bc2]) r14 r15 r16 5 5 Hr16.out _ HB1.out HB2.out (by decide)).mono ?_); rintro e w2 ⟨v_, rfl, hbm, hn⟩; replace HB1 := Lib.hid (HB1.out.of hn); replace HB2 := Lib.hid (HB2.out.of hn); have HB3 := Lib.hid hbm; have hvm := hbm.shape; clear hbm; obtain ⟨bn3, ba3, bl3, bc3, rfl⟩ := hvm)))
      refine hK.out _ _ hn ?_
      replace hb := hb.trans (hn.mono hb.size)
      clear hK K
      clear hn
      refine wpF_do rfl ?_
      intro w1 hg K hK
      replace hb := hb.trans (hg.mono hb.size)
      try replace HB1 := Lib.hid (HB1.out.of hg); try replace HB2 := Lib.hid (HB2.out.of hg); try replace HB3 := Lib.hid (HB3.out.of hg)
      clear hg
      go_wp2_with ((first | (go_at_call 66; (with_reducible refine (bigOf_v (wrap64 (r12 - r10)) r14 Hr14.out (wrap64_in _) _).mono ?_); rintro e w2 ⟨v_, rfl, hbm, hn⟩; have HB1 := Lib.hid hbm; have hvm := hbm.shape; clear hbm; obtain ⟨bn1, ba1, bl1, bc1, rfl⟩ := hvm) | (go_at_call 66; (with_reducible refine (bigOf_v (wrap64 (r9 - r7)) r15 Hr15.out (wrap64_in _) _).mono ?_); rintro e w2 ⟨v_, rfl, hbm, hn⟩; replace HB1 := Lib.hid (HB1.out.of hn); have HB2 := Lib.hid hbm; have hvm := hbm.shape; clear hbm; obtain ⟨bn2, ba2, bl2, bc2, rfl⟩ := hvm) | (go_at_call 65; (with_reducible refine (bigMul_v (.agg #[.bool bn1, .slice ba1 bl1 bc1]) (.agg #[.bool bn2, .slice ba2 bl2 bc2]) r14 r15 r16 5 5 Hr16.out _ HB1.out HB2.out (by decide)).mono ?_); rintro e w2 ⟨v_, rfl, hbm, hn⟩; replace HB1 := Lib.hid (HB1.out.of hn); replace HB2 := Lib.hid (HB2.out.of hn); have HB3 := Lib.hid hbm; have hvm := hbm.shape; clear hbm; obtain ⟨bn3, ba3, bl3, bc3, rfl⟩ := hvm)))
      refine hK.out _ _ hn ?_
      replace hb := hb.trans (hn.mono hb.size)
      clear hK K
      clear hn
      refine wpF_nil ?_
      clear hb
      intro w1 hg hb b1 lb1 nb1
      replace HB1 := Lib.hid (HB1.out.of hg)
      replace HB2 := Lib.hid (HB2.out.of hg)
      replace HB3 := Lib.hid (HB3.out.of hg)
      clear hg
      simp only [Act.put, ptrTo, List.setIfInBounds_toArray, List.set_cons_succ, List.set_cons_zero]
      simp only [List.drop_succ_cons, List.drop_zero]
      clear c3_1 l3 c4_1 l4 c5_0 l5 c6_0 l6
      first | refine calls_w ?_ | refine name_world ?_ | refine list_world ?_ | refine post_world ?_
      intro U11 hU11
      subst hU11
      have D9 := Lib.hid Kk1.out.lt
      have D10 := Lib.hid Kk2.out.lt
      have D11 := Lib.hid Kk3.out.lt
      have D12 := Lib.hid Kk4.out.lt
      have D13 := Lib.hid Kk5.out.lt
      have D14 := Lib.hid Kk6.out.lt
      have D15 := Lib.hid hb0.size
      have k7 : Blk U11 b1 #[.bool false, .slice none 0 0] 28 := nb1
      have k1 := Kk1.out.of hb
      clear Kk1
      have k2 := Kk2.out.of hb
      clear Kk2
      have k3 := Kk3.out.of hb
      clear Kk3
      have k4 := Kk4.out.of hb
      clear Kk4
      have k5 := Kk5.out.of hb
      clear Kk5
      have k6 := Kk6.out.of hb
      clear Kk6
      have D16 := Lib.hid lb1
      clear nb1 lb1
      replace hb0 := hb0.trans (hb.mono hb0.size)
      clear hb
      generalize b1 = q7 at *
      have c7_0 : U11.cell? ⟨q7, 0, none⟩ = some (.bool false) := k7.cell 0
      have c7_1 : U11.cell? ⟨q7, 1, none⟩ = some (.slice none 0 0) := k7.cell 1
      have f7_0 := k7.free 0
      have f7_1 := k7.free 1
      have l7 := k7.lt
      go_wp2_with fail
      clear c7_0 c7_1 f7_0 f7_1 l7
      first | refine calls_w ?_ | refine name_world ?_ | refine list_world ?_ | refine post_world ?_
      intro V12 hV12
      clear HB1 HB2
      have D17 := Lib.hid k1.lt
      have D18 := Lib.hid k2.lt
      have D19 := Lib.hid k3.lt
      have D20 := Lib.hid k4.lt
      have D21 := Lib.hid k5.lt
      have D22 := Lib.hid k6.lt
      have D23 := Lib.hid k7.lt
      have D24 := Lib.hid hb0.size
      have nk1 : Blk V12 w.heap.size #[.int .i64 ax, .int .i64 ay, .int .i64 bx, .int .i64 b_y] 50 := by rw [hV12]; exact (blk_setL k1 (by have := D9.out; have := D16.out; omega) 0 [.bool bn3, .slice ba3 bl3 bc3])
      have nk2 : Blk V12 (w.heap.size + 1) #[.int .i64 cx, .int .i64 cy, .int .i64 dx, .int .i64 dy] 50 := by rw [hV12]; exact (blk_setL k2 (by have := D10.out; have := D16.out; omega) 0 [.bool bn3, .slice ba3 bl3 bc3])
      have nk3 : Blk V12 U7.heap.size #[.int .i64 r6, .int .i64 r7] 24 := by rw [hV12]; exact (blk_setL k3 (by have := D11.out; have := D16.out; omega) 0 [.bool bn3, .slice ba3 bl3 bc3])
      have nk4 : Blk V12 (U7.heap.size + 1) #[.int .i64 r8, .int .i64 r9] 24 := by rw [hV12]; exact (blk_setL k4 (by have := D12.out; have := D16.out; omega) 0 [.bool bn3, .slice ba3 bl3 bc3])
      have nk5 : Blk V12 U9.heap.size #[.int .i64 r10, .int .i64 r11] 24 := by rw [hV12]; exact (blk_setL k5 (by have := D13.out; have := D16.out; omega) 0 [.bool bn3, .slice ba3 bl3 bc3])
      have nk6 : Blk V12 (U9.heap.size + 1) #[.int .i64 r12, .int .i64 r13] 24 := by rw [hV12]; exact (blk_setL k6 (by have := D14.out; have := D16.out; omega) 0 [.bool bn3, .slice ba3 bl3 bc3])
      have nk7 : Blk V12 q7 #[.bool bn3, .slice ba3 bl3 bc3] 28 := by rw [hV12]; exact (blk_full _ [.bool bn3, .slice ba3 bl3 bc3] k7 rfl)
      have nhb0 : Below w.heap.size w V12 := by rw [hV12]; exact (blw_setL hb0 (by have := D15.out; have := D16.out; omega) 0 [.bool bn3, .slice ba3 bl3 bc3])
      replace HB3 : Hid (Big V12 (.agg #[.bool bn3, .slice ba3 bl3 bc3]) r16 10) := Lib.hid (by rw [hV12]; exact (big_setL HB3.out (Blk.cell k7 0) (fun _ h => by cases h) 0 [.bool bn3, .slice ba3 bl3 bc3]))
      clear k1 k2 k3 k4 k5 k6 k7
      clear hb0
      clear hV12
      have k1 := nk1
      clear nk1
      have k2 := nk2
      clear nk2
      have k3 := nk3
      clear nk3
      have k4 := nk4
      clear nk4
      have k5 := nk5
      clear nk5
      have k6 := nk6
      clear nk6
      have k7 := nk7
      clear nk7
      have hb0 := nhb0
      clear nhb0
      obtain ⟨r17, hr17⟩ : ∃ o_o : Int, (wrap64 (r13 - r11)) = o_o := ⟨_, rfl⟩
      have Hr17 := Lib.hid hr17
      clear hr17
      obtain ⟨r18, hr18⟩ : ∃ o_o : Int, (wrap64 (r8 - r6)) = o_o := ⟨_, rfl⟩
      have Hr18 := Lib.hid hr18
      clear hr18
      obtain ⟨r19, hr19⟩ : ∃ o_o : Int, r17 * r18 = o_o := ⟨_, rfl⟩
      have Hr19 := Lib.hid hr19
      clear hr19
      have c3_0 : V12.cell? ⟨U7.heap.size, 0, none⟩ = some (.int .i64 r6) := k3.cell 0
      have l3 := k3.lt
      have c4_0 : V12.cell? ⟨(U7.heap.size + 1), 0, none⟩ = some (.int .i64 r8) := k4.cell 0
      have l4 := k4.lt
      have c5_1 : V12.cell? ⟨U9.heap.size, 1, none⟩ = some (.int .i64 r11) := k5.cell 1
      have l5 := k5.lt
      have c6_1 : V12.cell? ⟨(U9.heap.size + 1), 1, none⟩ = some (.int .i64 r13) := k6.cell 1
      have l6 := k6.lt
      have Kk1 := Lib.hid k1
      clear k1
      have Kk2 := Lib.hid k2
      clear k2
      have Kk3 := Lib.hid k3
      clear k3
      have Kk4 := Lib.hid k4
      clear k4
      have Kk5 := Lib.hid k5
      clear k5
      have Kk6 := Lib.hid k6
      clear k6
      have Kk7 := Lib.hid k7
      clear k7
      refine wp_region_float1 14 13 [(true, 0), (true, 1), (true, 2), (true, 3), (true, 4), (true, 6), (true, 7), (true, 8), (true, 9), (true, 10), (false, 5), (false, 11), (false, 12)] (by kernel_rfl) (by kernel_rfl) (fun _ _ d _ _ => by cases d <;> exact Iff.rfl) rfl rfl rfl alCrW_0 ?_
      have hb : Below V12.heap.size V12 V12.drew := (Below.refl _ _).drew
      iterate 10
        refine wpF_take rfl rfl ?_
        go_big_quiet_step (rfl)
        refine wpQuiet_nil ?_
      refine wpF_do rfl ?_
      intro w1 hg K hK
      replace hb := hb.trans (hg.mono hb.size)
      try replace HB4 := Lib.hid (HB4.out.of hg); try replace HB5 := Lib.hid (HB5.out.of hg); try replace HB6 := Lib.hid (HB6.out.of hg)
      clear hg
      go_wp2_with ((first | (go_at_call 66; (with_reducible refine (bigOf_v (wrap64 (r13 - r11)) r17 Hr17.out (wrap64_in _) _).mono ?_); rintro e w2 ⟨v_, rfl, hbm, hn⟩; have HB4 := Lib.hid hbm; have hvm := hbm.shape; clear hbm; obtain ⟨bn4, ba4, bl4, bc4, rfl⟩ := hvm) | (go_at_call 66; (with_reducible refine (bigOf_v (wrap64 (r8 - r6)) r18 Hr18.out (wrap64_in _) _).mono ?_); rintro e w2 ⟨v_, rfl, hbm, hn⟩; replace HB4 := Lib.hid (HB4.out.of hn); have HB5 := Lib.hid hbm; have hvm := hbm.shape; clear hbm; obtain ⟨bn5, ba5, bl5, bc5, rfl⟩ := hvm) | (go_at_call 65; (with_reducible refine (bigMul_v (.agg #[.bool bn4, .slice ba4 bl4 bc4]) (.agg #[.bool bn5, .slice ba5 bl5 bc5]) r17 r18 r19 5 5 Hr19.out _ HB4.out HB5.out (by decide)).mono ?_); rintro e w2 ⟨v_, rfl, hbm, hn⟩; replace HB4 := Lib.hid (HB4.out.of hn); replace HB5 := Lib.hid (HB5.out.of hn); have HB6 := Lib.hid hbm; have hvm := hbm.shape; clear hbm; obtain ⟨bn6, ba6, bl6, bc6, rfl⟩ := hvm)))
      refine hK.out _ _ hn ?_
      replace hb := hb.trans (hn.mono hb.size)
      clear hK K
      clear hn
      refine wpF_do rfl ?_
      intro w1 hg K hK
      replace hb := hb.trans (hg.mono hb.size)
      try replace HB4 := Lib.hid (HB4.out.of hg); try replace HB5 := Lib.hid (HB5.out.of hg); try replace HB6 := Lib.hid (HB6.out.of hg)
      clear hg
      go_wp2_with ((first | (go_at_call 66; (with_reducible refine (bigOf_v (wrap64 (r13 - r11)) r17 Hr17.out (wrap64_in _) _).mono ?_); rintro e w2 ⟨v_, rfl, hbm, hn⟩; have HB4 := Lib.hid hbm; have hvm := hbm.shape; clear hbm; obtain ⟨bn4, ba4, bl4, bc4, rfl⟩ := hvm) | (go_at_call 66; (with_reducible refine (bigOf_v (wrap64 (r8 - r6)) r18 Hr18.out (wrap64_in _) _).mono ?_); rintro e w2 ⟨v_, rfl, hbm, hn⟩; replace HB4 := Lib.hid (HB4.out.of hn); have HB5 := Lib.hid hbm; have hvm := hbm.shape; clear hbm; obtain ⟨bn5, ba5, bl5, bc5, rfl⟩ := hvm) | (go_at_call 65; (with_reducible refine (bigMul_v (.agg #[.bool bn4, .slice ba4 bl4 bc4]) (.agg #[.bool bn5, .slice ba5 bl5 bc5]) r17 r18 r19 5 5 Hr19.out _ HB4.out HB5.out (by decide)).mono ?_); rintro e w2 ⟨v_, rfl, hbm, hn⟩; replace HB4 := Lib.hid (HB4.out.of hn); replace HB5 := Lib.hid (HB5.out.of hn); have HB6 := Lib.hid hbm; have hvm := hbm.shape; clear hbm; obtain ⟨bn6, ba6, bl6, bc6, rfl⟩ := hvm)))
      refine hK.out _ _ hn ?_
      replace hb := hb.trans (hn.mono hb.size)
      clear hK K
      clear hn
      refine wpF_do rfl ?_
      intro w1 hg K hK
      replace hb := hb.trans (hg.mono hb.size)
      try replace HB4 := Lib.hid (HB4.out.of hg); try replace HB5 := Lib.hid (HB5.out.of hg); try replace HB6 := Lib.hid (HB6.out.of hg)
      clear hg
      go_wp2_with ((first | (go_at_call 66; (with_reducible refine (bigOf_v (wrap64 (r13 - r11)) r17 Hr17.out (wrap64_in _) _).mono ?_); rintro e w2 ⟨v_, rfl, hbm, hn⟩; have HB4 := Lib.hid hbm; have hvm := hbm.shape; clear hbm; obtain ⟨bn4, ba4, bl4, bc4, rfl⟩ := hvm) | (go_at_call 66; (with_reducible refine (bigOf_v (wrap64 (r8 - r6)) r18 Hr18.out (wrap64_in _) _).mono ?_); rintro e w2 ⟨v_, rfl, hbm, hn⟩; replace HB4 := Lib.hid (HB4.out.of hn); have HB5 := Lib.hid hbm; have hvm := hbm.shape; clear hbm; obtain ⟨bn5, ba5, bl5, bc5, rfl⟩ := hvm) | (go_at_call 65; (with_reducible refine (bigMul_v (.agg #[.bool bn4, .slice ba4 bl4 bc4]) (.agg #[.bool bn5, .slice ba5 bl5 bc5]) r17 r18 r19 5 5 Hr19.out _ HB4.out HB5.out (by decide)).mono ?_); rintro e w2 ⟨v_, rfl, hbm, hn⟩; replace HB4 := Lib.hid (HB4.out.of hn); replace HB5 := Lib.hid (HB5.out.of hn); have HB6 := Lib.hid hbm; have hvm := hbm.shape; clear hbm; obtain ⟨bn6, ba6, bl6, bc6, rfl⟩ := hvm)))
      refine hK.out _ _ hn ?_
      replace hb := hb.trans (hn.mono hb.size)
      clear hK K
      clear hn
      refine wpF_nil ?_
      clear hb
      intro w1 hg hb b1 lb1 nb1
      replace HB4 := Lib.hid (HB4.out.of hg)
      replace HB5 := Lib.hid (HB5.out.of hg)
      replace HB6 := Lib.hid (HB6.out.of hg)
      clear hg
      simp only [Act.put, ptrTo, List.setIfInBounds_toArray, List.set_cons_succ, List.set_cons_zero]
      simp only [List.drop_succ_cons, List.drop_zero]
      clear c3_0 l3 c4_0 l4 c5_1 l5 c6_1 l6
      first | refine calls_w ?_ | refine name_world ?_ | refine list_world ?_ | refine post_world ?_
      intro U13 hU13
      subst hU13
      have D25 := Lib.hid Kk1.out.lt
      have D26 := Lib.hid Kk2.out.lt
      have D27 := Lib.hid Kk3.out.lt
      have D28 := Lib.hid Kk4.out.lt
      have D29 := Lib.hid Kk5.out.lt
      have D30 := Lib.hid Kk6.out.lt
      have D31 := Lib.hid Kk7.out.lt
      have D32 := Lib.hid hb0.size
      have k8 : Blk U13 b1 #[.bool false, .slice none 0 0] 28 := nb1
      have k1 := Kk1.out.of hb
      clear Kk1
      have k2 := Kk2.out.of hb
      clear Kk2
      have k3 := Kk3.out.of hb
      clear Kk3
      have k4 := Kk4.out.of hb
      clear Kk4
      have k5 := Kk5.out.of hb
      clear Kk5
      have k6 := Kk6.out.of hb
      clear Kk6
      have k7 := Kk7.out.of hb
      clear Kk7
      have D33 := Lib.hid lb1
      clear nb1 lb1
      replace HB3 := Lib.hid (HB3.out.of hb)
      replace hb0 := hb0.trans (hb.mono hb0.size)
      clear hb
      generalize b1 = q8 at *
      have c7_0 : U13.cell? ⟨q7, 0, none⟩ = some (.bool bn3) := k7.cell 0
      have c7_1 : U13.cell? ⟨q7, 1, none⟩ = some (.slice ba3 bl3 bc3) := k7.cell 1
      have l7 := k7.lt
      have c8_0 : U13.cell? ⟨q8, 0, none⟩ = some (.bool false) := k8.cell 0
      have c8_1 : U13.cell? ⟨q8, 1, none⟩ = some (.slice none 0 0) := k8.cell 1
      have f8_0 := k8.free 0
      have f8_1 := k8.free 1
      have l8 := k8.lt
      have p7_8 : q7 ≠ q8 := (by have := D31.out; have := D33.out; omega)
      go_wp2_with fail
      clear c7_0 c7_1 l7 c8_0 c8_1 f8_0 f8_1 l8 p7_8
      first | refine calls_w ?_ | refine name_world ?_ | refine list_world ?_ | refine post_world ?_
      intro V14 hV14
      clear HB4 HB5
      clear k3 k4 k5 k6 k7
      have D34 := Lib.hid k1.lt
      have D35 := Lib.hid k2.lt
      have D36 := Lib.hid k8.lt
      have D37 := Lib.hid hb0.size
      have nk1 : Blk V14 w.heap.size #[.int .i64 ax, .int .i64 ay, .int .i64 bx, .int .i64 b_y] 50 := by rw [hV14]; exact (blk_setL k1 (by have := D25.out; have := D33.out; omega) 0 [.bool bn6, .slice ba6 bl6 bc6])
      have nk2 : Blk V14 (w.heap.size + 1) #[.int .i64 cx, .int .i64 cy, .int .i64 dx, .int .i64 dy] 50 := by rw [hV14]; exact (blk_setL k2 (by have := D26.out; have := D33.out; omega) 0 [.bool bn6, .slice ba6 bl6 bc6])
      have nk8 : Blk V14 q8 #[.bool bn6, .slice ba6 bl6 bc6] 28 := by rw [hV14]; exact (blk_full _ [.bool bn6, .slice ba6 bl6 bc6] k8 rfl)
      have nhb0 : Below w.heap.size w V14 := by rw [hV14]; exact (blw_setL hb0 (by have := D32.out; have := D33.out; omega) 0 [.bool bn6, .slice ba6 bl6 bc6])
      replace HB3 : Hid (Big V14 (.agg #[.bool bn3, .slice ba3 bl3 bc3]) r16 10) := Lib.hid (by rw [hV14]; exact (big_setL HB3.out (Blk.cell k8 0) (fun _ h => by cases h) 0 [.bool bn6, .slice ba6 bl6 bc6]))
      replace HB6 : Hid (Big V14 (.agg #[.bool bn6, .slice ba6 bl6 bc6]) r19 10) := Lib.hid (by rw [hV14]; exact (big_setL HB6.out (Blk.cell k8 0) (fun _ h => by cases h) 0 [.bool bn6, .slice ba6 bl6 bc6]))
      clear k1 k2 k8
      clear hb0
      clear hV14
      have k1 := nk1
      clear nk1
      have k2 := nk2
      clear nk2
      have k8 := nk8
      clear nk8
      have hb0 := nhb0
      clear nhb0
      obtain ⟨r20, hr20⟩ : ∃ o_o : Int, r16 - r19 = o_o := ⟨_, rfl⟩
      have Hr20 := Lib.hid hr20
      clear hr20
      refine (bigSub_v (.agg #[.bool bn3, .slice ba3 bl3 bc3]) (.agg #[.bool bn6, .slice ba6 bl6 bc6]) r16 r19 r20 10 Hr20.out _ HB3.out HB6.out (by decide)).mono ?_
      rintro e U15 ⟨v_, rfl, hbm, hn⟩
      clear HB3 HB6
      clear k8
      replace k1 := k1.of hn
      replace k2 := k2.of hn
      replace hb0 := hb0.trans (hn.mono hb0.size)
      clear hn
      have HB7 := Lib.hid hbm
      have hvm := hbm.shape
      clear hbm
      obtain ⟨bn7, ba7, bl7, bc7, rfl⟩ := hvm
      go_wp2_with fail
      obtain ⟨r21, hr21⟩ : ∃ o_o : Int, r20.sign = o_o := ⟨_, rfl⟩
      have Hr21 := Lib.hid hr21
      clear hr21
      refine (bigSign_v (.agg #[.bool bn7, .slice ba7 bl7 bc7]) r20 11 r21 Hr21.out _ HB7.out).mono ?_
      rintro e U16 ⟨rfl, hn⟩
      clear HB7
      replace k1 := k1.of hn
      replace k2 := k2.of hn
      replace hb0 := hb0.trans (hn.mono hb0.size)
      clear hn
      obtain ⟨z22, hz22⟩ : ∃ o_o : Bool, (r1 == r21) = o_o := ⟨_, rfl⟩
      cases z22
      · have nz22 : ¬ r1 = r21 := by simpa using hz22
        have e0 : false = R0 := by rw [← HR0.out]; unfold cslB; (try rw [Hr1.out]); (try rw [Hz2.out]); (try rw [Hz4.out]); (try rw [Hr6.out]); (try rw [Hr7.out]); (try rw [Hr8.out]); (try rw [Hr9.out]); (try rw [Hr10.out]); (try rw [Hr11.out]); (try rw [Hr12.out]); (try rw [Hr13.out]); (try rw [Hr14.out]); (try rw [Hr15.out]); (try rw [Hr16.out]); (try rw [Hr17.out]); (try rw [Hr18.out]); (try rw [Hr19.out]); (try rw [Hr20.out]); (try rw [Hr21.out]); (try rw [hz22]); all_goals first | rfl | simp
        subst e0
        go_wp2
        first | go_ret | go_ret2
        exact ⟨by first | rfl | simp, hb0⟩
      · have qz22 : r1 = r21 := by simpa using hz22
        clear hz22
        subst qz22
        have c1_0 : U16.cell? ⟨w.heap.size, 0, none⟩ = some (.int .i64 ax) := k1.cell 0
        have c1_1 : U16.cell? ⟨w.heap.size, 1, none⟩ = some (.int .i64 ay) := k1.cell 1
        have c1_2 : U16.cell? ⟨w.heap.size, 2, none⟩ = some (.int .i64 bx) := k1.cell 2
        have c1_3 : U16.cell? ⟨w.heap.size, 3, none⟩ = some (.int .i64 b_y) := k1.cell 3
        have l1 := k1.lt
        have c2_0 : U16.cell? ⟨(w.heap.size + 1), 0, none⟩ = some (.int .i64 cx) := k2.cell 0
        have c2_1 : U16.cell? ⟨(w.heap.size + 1), 1, none⟩ = some (.int .i64 cy) := k2.cell 1
        have c2_2 : U16.cell? ⟨(w.heap.size + 1), 2, none⟩ = some (.int .i64 dx) := k2.cell 2
        have c2_3 : U16.cell? ⟨(w.heap.size + 1), 3, none⟩ = some (.int .i64 dy) := k2.cell 3
        have l2 := k2.lt
        go_wp2_with fail
        clear c1_0 c1_1 c1_2 c1_3 l1 c2_0 c2_1 c2_2 c2_3 l2
        obtain ⟨r23, hr23⟩ : ∃ o_o : Int, slp cx cy dx dy ax ay bx b_y = o_o := ⟨_, rfl⟩
        have Hr23 := Lib.hid hr23
        clear hr23
        refine (Slope_is cx cy dx dy ax ay bx b_y r23 Hr23.out _icx _icy _idx _idy _iax _iay _ibx _ib_y  _).mono ?_
        rintro e U17 ⟨rfl, hn⟩
        clear k1 k2
        replace hb0 := hb0.trans (hn.mono hb0.size)
        clear hn
        obtain ⟨z24, hz24⟩ : ∃ o_o : Bool, (r23 == (wrap64 (-r1))) = o_o := ⟨_, rfl⟩
        cases z24
        · have nz24 : ¬ r23 = (wrap64 (-r1)) := by simpa using hz24
          have e0 : false = R0 := by rw [← HR0.out]; unfold cslB; (try rw [Hr1.out]); (try rw [Hz2.out]); (try rw [Hz4.out]); (try rw [Hr6.out]); (try rw [Hr7.out]); (try rw [Hr8.out]); (try rw [Hr9.out]); (try rw [Hr10.out]); (try rw [Hr11.out]); (try rw [Hr12.out]); (try rw [Hr13.out]); (try rw [Hr14.out]); (try rw [Hr15.out]); (try rw [Hr16.out]); (try rw [Hr17.out]); (try rw [Hr18.out]); (try rw [Hr19.out]); (try rw [Hr20.out]); (try rw [Hr21.out]); (try rw [Hr23.out]); (try rw [hz24]); all_goals first | rfl | simp
          subst e0
          go_wp2
          first | go_ret | go_ret2
          exact ⟨by first | rfl | simp, hb0⟩
        · go_wp2_with fail
          refine (cawake_any _).mono ?_
          rintro e U18 ⟨rfl, hn⟩
          replace hb0 := hb0.trans (hn.mono hb0.size)
          clear hn
          have e0 : true = R0 := by rw [← HR0.out]; unfold cslB; (try rw [Hr1.out]); (try rw [Hz2.out]); (try rw [Hz4.out]); (try rw [Hr6.out]); (try rw [Hr7.out]); (try rw [Hr8.out]); (try rw [Hr9.out]); (try rw [Hr10.out]); (try rw [Hr11.out]); (try rw [Hr12.out]); (try rw [Hr13.out]); (try rw [Hr14.out]); (try rw [Hr15.out]); (try rw [Hr16.out]); (try rw [Hr17.out]); (try rw [Hr18.out]); (try rw [Hr19.out]); (try rw [Hr20.out]); (try rw [Hr21.out]); (try rw [Hr23.out]); (try rw [hz24]); all_goals first | rfl | simp
          subst e0
          go_wp2
          first | go_ret | go_ret2
          exact ⟨by first | rfl | simp, hb0⟩
end Go.Proofs.Ytlcbomjdbdgbmaa
