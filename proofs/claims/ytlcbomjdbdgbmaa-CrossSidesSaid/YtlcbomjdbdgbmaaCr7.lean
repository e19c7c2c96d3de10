/- The walks of gromaref04: At, Right, Cmp, Side. Conditions: the numbers are ints, the spots have three numbers of 18 digits. -/
import Derived.Test.YtlcbomjdbdgbmaaCr4
import Derived.Test.YtlcbomjdbdgbmaaAwC
namespace Go.Proofs.Ytlcbomjdbdgbmaa
open Go.RowKit

def rAtx (x : Int) (y : Int) : Int := x

def rAty (x : Int) (y : Int) : Int := y

def rAtw (x : Int) (y : Int) : Int := 1

def rAt_is_post (w : World) (R0 : Int) (R1 : Int) (R2 : Int) (e : Ending) (w' : World) : Prop := ∃ (m0 : Bool) (p0 : Option Addr) (q0 t0 : Nat) (m1 : Bool) (p1 : Option Addr) (q1 t1 : Nat) (m2 : Bool) (p2 : Option Addr) (q2 t2 : Nat), e = .returned (.agg #[.bool m0, .slice p0 q0 t0, .bool m1, .slice p1 q1 t1, .bool m2, .slice p2 q2 t2]) ∧ Big w' (.agg #[.bool m0, .slice p0 q0 t0]) R0 5 ∧ Big w' (.agg #[.bool m1, .slice p1 q1 t1]) R1 5 ∧ Big w' (.agg #[.bool m2, .slice p2 q2 t2]) R2 5 ∧ Below w.heap.size w w'

set_option maxRecDepth 100000 in
set_option maxHeartbeats 4000000 in

theorem rAt_is (x : Int) (y : Int)  (R0 : Int) (R1 : Int) (R2 : Int) (hR0 : rAtx x y = R0) (hR1 : rAty x y = R1) (hR2 : rAtw x y = R2) (_ix : In64 x) (_iy : In64 y)  (w : World)  :
    Calls Try.prog 61 #[.agg #[.int .i64 x, .int .i64 y]] w (rAt_is_post w R0 R1 R2) := by

  have HR0 := Lib.hid hR0
  clear hR0
  have HR1 := Lib.hid hR1
  clear hR1
  have HR2 := Lib.hid hR2
  clear hR2
  go_enter Try.func61, Try.ntmps61
  go_wp2_with fail
  first | refine calls_w ?_ | refine name_world ?_ | refine list_world ?_ | refine post_world ?_
  intro V1 hV1
  have hn : Below w.heap.size w V1 := by rw [hV1]; exact below_a2 _ _ _
  have nhb0 := hn
  have k1 : Blk V1 w.heap.size #[.int .i64 x, .int .i64 y] 31 := by rw [hV1]; exact ((Blk.new _ _ _).alloc _)
  have k2 : Blk V1 (w.heap.size + 1) #[.bool false, .slice none 0 0, .bool false, .slice none 0 0, .bool false, .slice none 0 0] 72 := by rw [hV1]; exact (Blk.new1 _ _ _ _)
  clear hV1
  have hb0 := nhb0
  clear nhb0
  have c1_0 : V1.cell? ⟨w.heap.size, 0, none⟩ = some (.int .i64 x) := k1.cell 0
  have c1_1 : V1.cell? ⟨w.heap.size, 1, none⟩ = some (.int .i64 y) := k1.cell 1
  have l1 := k1.lt
  have Kk1 := Lib.hid k1
  clear k1
  have Kk2 := Lib.hid k2
  clear k2
  refine wp_region_up V1.heap.size 5 [(true, 0), (true, 1), (true, 3), (true, 4), (false, 2)] (by kernel_rfl) (by kernel_rfl) (fun _ _ d _ _ h => by cases d <;> exact h) ?_
  have hb : Below V1.heap.size V1 V1.drew := (Below.refl _ _).drew
  iterate 4
    refine wpS_takeL rfl rfl ?_
    go_big_quiet_step (rfl)
    refine wpQuiet_nil ?_
  refine wpS_doL rfl ?_
  intro K hK
  go_wp2_with ((go_at_call 66; (with_reducible refine (bigOf_v x x rfl _ix _).mono ?_); rintro e w2 ⟨v_, rfl, hbm, hn⟩; have HB1 := Lib.hid hbm; have hvm := hbm.shape; clear hbm; obtain ⟨bn1, ba1, bl1, bc1, rfl⟩ := hvm))
  replace hb := hb.trans (hn.mono hb.size)
  refine hK.out _ _ (up_iff.2 hb) ?_
  clear hK K
  clear hn
  refine wpS_nil ?_
  simp only [List.drop_succ_cons, List.drop_zero]
  first | refine calls_w ?_ | refine name_world ?_ | refine list_world ?_ | refine post_world ?_
  intro U2 hU2
  first | subst hU2 | (rw [← hU2] at hb; clear hU2)
  clear c1_0 c1_1 l1
  have k1 := Kk1.out.of hb
  clear Kk1
  have k2 := Kk2.out.of hb
  clear Kk2
  replace hb0 := hb0.trans (hb.mono hb0.size)
  clear hb
  go_wp2_with fail
  refine (bigOf_v y y rfl _iy _).mono ?_
  rintro e U3 ⟨v_, rfl, hbm, hn⟩
  clear k1
  replace k2 := k2.of hn
  replace HB1 := Lib.hid (HB1.out.of hn)
  replace hb0 := hb0.trans (hn.mono hb0.size)
  clear hn
  have HB2 := Lib.hid hbm
  have hvm := hbm.shape
  clear hbm
  obtain ⟨bn2, ba2, bl2, bc2, rfl⟩ := hvm
  go_wp2_with fail
  refine (bigOf_v 1 1 rfl (by unfold In64; omega) _).mono ?_
  rintro e U4 ⟨v_, rfl, hbm, hn⟩
  replace k2 := k2.of hn
  replace HB1 := Lib.hid (HB1.out.of hn)
  replace HB2 := Lib.hid (HB2.out.of hn)
  replace hb0 := hb0.trans (hn.mono hb0.size)
  clear hn
  have HB3 := Lib.hid hbm
  have hvm := hbm.shape
  clear hbm
  obtain ⟨bn3, ba3, bl3, bc3, rfl⟩ := hvm
  have c2_0 : U4.cell? ⟨(w.heap.size + 1), 0, none⟩ = some (.bool false) := k2.cell 0
  have c2_1 : U4.cell? ⟨(w.heap.size + 1), 1, none⟩ = some (.slice none 0 0) := k2.cell 1
  have c2_2 : U4.cell? ⟨(w.heap.size + 1), 2, none⟩ = some (.bool false) := k2.cell 2
  have c2_3 : U4.cell? ⟨(w.heap.size + 1), 3, none⟩ = some (.slice none 0 0) := k2.cell 3
  have c2_4 : U4.cell? ⟨(w.heap.size + 1), 4, none⟩ = some (.bool false) := k2.cell 4
  have c2_5 : U4.cell? ⟨(w.heap.size + 1), 5, none⟩ = some (.slice none 0 0) := k2.cell 5
  have f2_0 := k2.free 0
  have f2_1 := k2.free 1
  have f2_2 := k2.free 2
  have f2_3 := k2.free 3
  have f2_4 := k2.free 4
  have f2_5 := k2.free 5
  have l2 := k2.lt
  have e0 : x = R0 := by rw [← HR0.out]; unfold rAtx; all_goals first | rfl | simp
  have e1 : y = R1 := by rw [← HR1.out]; unfold rAty; all_goals first | rfl | simp
  have e2 : 1 = R2 := by rw [← HR2.out]; unfold rAtw; all_goals first | rfl | simp
  subst e0
  subst e1
  subst e2
  go_wp2
  clear c2_0 c2_1 c2_2 c2_3 c2_4 c2_5 f2_0 f2_1 f2_2 f2_3 f2_4 f2_5 l2
  first | refine post_world ?_
  intro V5 hV5
  have D1 := Lib.hid k2.lt
  have D2 := Lib.hid hb0.size
  have nk2 : Blk V5 (w.heap.size + 1) #[.bool bn1, .slice ba1 bl1 bc1, .bool bn2, .slice ba2 bl2 bc2, .bool bn3, .slice ba3 bl3 bc3] 72 := by rw [hV5]; exact (blk_full _ [.bool bn1, .slice ba1 bl1 bc1, .bool bn2, .slice ba2 bl2 bc2, .bool bn3, .slice ba3 bl3 bc3] k2 rfl)
  have nhb0 : Below w.heap.size w V5 := by rw [hV5]; exact (blw_setL hb0 (by omega) 0 [.bool bn1, .slice ba1 bl1 bc1, .bool bn2, .slice ba2 bl2 bc2, .bool bn3, .slice ba3 bl3 bc3])
  replace HB1 : Hid (Big V5 (.agg #[.bool bn1, .slice ba1 bl1 bc1]) x 5) := Lib.hid (by rw [hV5]; exact (big_setL HB1.out (Blk.cell k2 0) (fun _ h => by cases h) 0 [.bool bn1, .slice ba1 bl1 bc1, .bool bn2, .slice ba2 bl2 bc2, .bool bn3, .slice ba3 bl3 bc3]))
  replace HB2 : Hid (Big V5 (.agg #[.bool bn2, .slice ba2 bl2 bc2]) y 5) := Lib.hid (by rw [hV5]; exact (big_setL HB2.out (Blk.cell k2 0) (fun _ h => by cases h) 0 [.bool bn1, .slice ba1 bl1 bc1, .bool bn2, .slice ba2 bl2 bc2, .bool bn3, .slice ba3 bl3 bc3]))
  replace HB3 : Hid (Big V5 (.agg #[.bool bn3, .slice ba3 bl3 bc3]) 1 5) := Lib.hid (by rw [hV5]; exact (big_setL HB3.out (Blk.cell k2 0) (fun _ h => by cases h) 0 [.bool bn1, .slice ba1 bl1 bc1, .bool bn2, .slice ba2 bl2 bc2, .bool bn3, .slice ba3 bl3 bc3]))
  clear k2
  clear hb0
  clear hV5
  have k2 := nk2
  clear nk2
  have hb0 := nhb0
  clear nhb0
  have g2_0 : V5.cell? ⟨(w.heap.size + 1), 0, none⟩ = some (.bool bn1) := k2.cell 0
  have g2_1 : V5.cell? ⟨(w.heap.size + 1), 1, none⟩ = some (.slice ba1 bl1 bc1) := k2.cell 1
  have g2_2 : V5.cell? ⟨(w.heap.size + 1), 2, none⟩ = some (.bool bn2) := k2.cell 2
  have g2_3 : V5.cell? ⟨(w.heap.size + 1), 3, none⟩ = some (.slice ba2 bl2 bc2) := k2.cell 3
  have g2_4 : V5.cell? ⟨(w.heap.size + 1), 4, none⟩ = some (.bool bn3) := k2.cell 4
  have g2_5 : V5.cell? ⟨(w.heap.size + 1), 5, none⟩ = some (.slice ba3 bl3 bc3) := k2.cell 5
  clear k2
  simp [bodyPost, results, Try.results61, go_sem, g2_0, g2_1, g2_2, g2_3, g2_4, g2_5]
  exact ⟨_, _, _, _, _, _, _, _, _, _, _, _, rfl, (HB1.out.mono (by decide)), (HB2.out.mono (by decide)), (HB3.out.mono (by decide)), hb0⟩

theorem pow90_v (w : World) : Calls Try.prog 90 #[.int .i64 90] w (GivesBig w 1237940039285380274899124224 7) := by
  have h := Power_any 90 w (by decide)
  rw [show (2 : Int) ^ 90 = 1237940039285380274899124224 by decide] at h
  exact h

theorem pow41_v (w : World) : Calls Try.prog 90 #[.int .i64 41] w (GivesBig w 2199023255552 3) := by
  have h := Power_any 41 w (by decide)
  rw [show (2 : Int) ^ 41 = 2199023255552 by decide] at h
  exact h

theorem alCr9_0 : AllocRuns Try.prog 28 #[.bool false, .slice none 0 0] := fun w => by kernel_rfl

def rspR (X : Int) (Y : Int) (Z : Int) : Bool := (bif decide ((Z.sign) ≤ 0) then false else (bif decide (0 < (cmpI Z 1237940039285380274899124224)) then false else (bif decide (0 ≤ (cmpI X (-(2199023255552 * Z)))) then (bif decide ((cmpI X (2199023255552 * Z)) ≤ 0) then (bif decide (0 ≤ (cmpI Y (-(2199023255552 * Z)))) then decide ((cmpI Y (2199023255552 * Z)) ≤ 0) else false) else false) else false)))

set_option maxRecDepth 100000 in
set_option maxHeartbeats 4000000 in

theorem rSpR_is (X : Int) (Y : Int) (Z : Int)  (R0 : Bool) (hR0 : rspR X Y Z = R0)  (nX : Bool) (aX : Option Addr) (lX cX : Nat) (nY : Bool) (aY : Option Addr) (lY cY : Nat) (nZ : Bool) (aZ : Option Addr) (lZ cZ : Nat) (w : World) (hX : Big w (.agg #[.bool nX, .slice aX lX cX]) X 18) (hY : Big w (.agg #[.bool nY, .slice aY lY cY]) Y 18) (hZ : Big w (.agg #[.bool nZ, .slice aZ lZ cZ]) Z 18) :
    Calls Try.prog 41 #[.agg #[.bool nX, .slice aX lX cX, .bool nY, .slice aY lY cY, .bool nZ, .slice aZ lZ cZ]] w fun e w' => e = .returned (.bool R0) ∧ Below w.heap.size w w' := by

  have HX := Lib.hid hX
  clear hX
  have HY := Lib.hid hY
  clear hY
  have HZ := Lib.hid hZ
  clear hZ
  have HR0 := Lib.hid hR0
  clear hR0
  go_enter Try.func41, Try.ntmps41
  go_wp2_with fail
  first | refine calls_w ?_ | refine name_world ?_ | refine list_world ?_ | refine post_world ?_
  intro V1 hV1
  have hn : Below w.heap.size w V1 := by rw [hV1]; exact below_a1 _ _
  replace HX := Lib.hid (HX.out.of hn)
  replace HY := Lib.hid (HY.out.of hn)
  replace HZ := Lib.hid (HZ.out.of hn)
  have nhb0 := hn
  have k1 : Blk V1 w.heap.size #[.bool nX, .slice aX lX cX, .bool nY, .slice aY lY cY, .bool nZ, .slice aZ lZ cZ] 72 := by rw [hV1]; exact (Blk.new _ _ _)
  clear hV1
  have hb0 := nhb0
  clear nhb0
  obtain ⟨r1, hr1⟩ : ∃ o_o : Int, Z.sign = o_o := ⟨_, rfl⟩
  have Hr1 := Lib.hid hr1
  clear hr1
  obtain ⟨z2, hz2⟩ : ∃ o_o : Bool, decide (r1 ≤ 0) = o_o := ⟨_, rfl⟩
  cases z2
  · have c1_4 : V1.cell? ⟨w.heap.size, 4, none⟩ = some (.bool nZ) := k1.cell 4
    have c1_5 : V1.cell? ⟨w.heap.size, 5, none⟩ = some (.slice aZ lZ cZ) := k1.cell 5
    have l1 := k1.lt
    have Kk1 := Lib.hid k1
    clear k1
    refine wp_region_up V1.heap.size 8 [(true, 0), (true, 1), (false, 2), (true, 3), (true, 4), (true, 5), (true, 6), (false, 7)] (by kernel_rfl) (by kernel_rfl) (fun _ _ d _ _ h => by cases d <;> exact h) ?_
    have hb : Below V1.heap.size V1 V1.drew := (Below.refl _ _).drew
    iterate 2
      refine wpS_takeL rfl rfl ?_
      go_big_quiet_step (rfl)
      refine wpQuiet_nil ?_
    refine wpS_doL rfl ?_
    intro K hK
    go_wp2_with ((first | (go_at_call 67; (with_reducible refine (bigSign_v (.agg #[.bool nZ, .slice aZ lZ cZ]) Z 18 r1 Hr1.out _ (HZ.out.of hb)).mono ?_); rintro e w2 ⟨rfl, hn⟩) | (go_at_call 90; (with_reducible refine (pow90_v _).mono ?_); rintro e w2 ⟨v_, rfl, hbm, hn⟩; have HB1 := Lib.hid hbm; have hvm := hbm.shape; clear hbm; obtain ⟨bn1, ba1, bl1, bc1, rfl⟩ := hvm)))
    replace hb := hb.trans (hn.mono hb.size)
    refine hK.out _ _ (up_iff.2 hb) ?_
    clear hK K
    clear hn
    iterate 4
      refine wpS_takeL rfl rfl ?_
      go_big_quiet_step (rfl)
      refine wpQuiet_nil ?_
    refine wpS_doL rfl ?_
    intro K hK
    go_wp2_with ((first | (go_at_call 67; (with_reducible refine (bigSign_v (.agg #[.bool nZ, .slice aZ lZ cZ]) Z 18 r1 Hr1.out _ (HZ.out.of hb)).mono ?_); rintro e w2 ⟨rfl, hn⟩) | (go_at_call 90; (with_reducible refine (pow90_v _).mono ?_); rintro e w2 ⟨v_, rfl, hbm, hn⟩; have HB1 := Lib.hid hbm; have hvm := hbm.shape; clear hbm; obtain ⟨bn1, ba1, bl1, bc1, rfl⟩ := hvm)))
    try replace hb := hb.trans (hn.mono hb.size)
    refine hK.out _ _ (up_iff.2 hb) ?_
    clear hK K
    try clear hn
    refine wpS_nil ?_
    simp only [List.drop_succ_cons, List.drop_zero]
    first | refine calls_w ?_ | refine name_world ?_ | refine list_world ?_ | refine post_world ?_
    intro U2 hU2
    first | subst hU2 | (rw [← hU2] at hb; clear hU2)
    clear c1_4 c1_5 l1
    have k1 := Kk1.out.of hb
    clear Kk1
    replace HX := Lib.hid (HX.out.of hb)
    replace HY := Lib.hid (HY.out.of hb)
    replace HZ := Lib.hid (HZ.out.of hb)
    replace hb0 := hb0.trans (hb.mono hb0.size)
    clear hb
    go_wp2_with fail
    obtain ⟨r3, hr3⟩ : ∃ o_o : Int, cmpI Z 1237940039285380274899124224 = o_o := ⟨_, rfl⟩
    have Hr3 := Lib.hid hr3
    clear hr3
    refine (bigCmp_v (.agg #[.bool nZ, .slice aZ lZ cZ]) (.agg #[.bool bn1, .slice ba1 bl1 bc1]) Z 1237940039285380274899124224 18 7 r3 Hr3.out _ HZ.out HB1.out).mono ?_
    rintro e U3 ⟨rfl, hn⟩
    clear HB1
    replace k1 := k1.of hn
    replace HX := Lib.hid (HX.out.of hn)
    replace HY := Lib.hid (HY.out.of hn)
    replace HZ := Lib.hid (HZ.out.of hn)
    replace hb0 := hb0.trans (hn.mono hb0.size)
    clear hn
    obtain ⟨z4, hz4⟩ : ∃ o_o : Bool, decide (0 < r3) = o_o := ⟨_, rfl⟩
    cases z4
    · go_wp2_with fail
      obtain ⟨r5, hr5⟩ : ∃ o_o : Int, 2199023255552 * Z = o_o := ⟨_, rfl⟩
      have Hr5 := Lib.hid hr5
      clear hr5
      have c1_4 : U3.cell? ⟨w.heap.size, 4, none⟩ = some (.bool nZ) := k1.cell 4
      have c1_5 : U3.cell? ⟨w.heap.size, 5, none⟩ = some (.slice aZ lZ cZ) := k1.cell 5
      have l1 := k1.lt
      have Kk1 := Lib.hid k1
      clear k1
      refine wp_region_float1 5 4 [(true, 1), (true, 2), (false, 0), (false, 3)] (by kernel_rfl) (by kernel_rfl) (fun _ _ d _ _ => by cases d <;> exact Iff.rfl) rfl rfl rfl alCr9_0 ?_
      have hb : Below U3.heap.size U3 U3.drew := (Below.refl _ _).drew
      iterate 2
        refine wpF_take rfl rfl ?_
        go_big_quiet_step (rfl)
        refine wpQuiet_nil ?_
      refine wpF_do rfl ?_
      intro w1 hg K hK
      replace hb := hb.trans (hg.mono hb.size)
      try replace HB2 := Lib.hid (HB2.out.of hg); try replace HB3 := Lib.hid (HB3.out.of hg)
      clear hg
      go_wp2_with ((first | (go_at_call 90; (with_reducible refine (pow41_v _).mono ?_); rintro e w2 ⟨v_, rfl, hbm, hn⟩; have HB2 := Lib.hid hbm; have hvm := hbm.shape; clear hbm; obtain ⟨bn2, ba2, bl2, bc2, rfl⟩ := hvm) | (go_at_call 65; (with_reducible refine (bigMul_v (.agg #[.bool bn2, .slice ba2 bl2 bc2]) (.agg #[.bool nZ, .slice aZ lZ cZ]) 2199023255552 Z r5 3 18 Hr5.out _ HB2.out (HZ.out.of hb) (by decide)).mono ?_); rintro e w2 ⟨v_, rfl, hbm, hn⟩; replace HB2 := Lib.hid (HB2.out.of hn); have HB3 := Lib.hid hbm; have hvm := hbm.shape; clear hbm; obtain ⟨bn3, ba3, bl3, bc3, rfl⟩ := hvm)))
      refine hK.out _ _ hn ?_
      replace hb := hb.trans (hn.mono hb.size)
      clear hK K
      clear hn
      refine wpF_do rfl ?_
      intro w1 hg K hK
      replace hb := hb.trans (hg.mono hb.size)
      try replace HB2 := Lib.hid (HB2.out.of hg); try replace HB3 := Lib.hid (HB3.out.of hg)
      clear hg
      go_wp2_with ((first | (go_at_call 90; (with_reducible refine (pow41_v _).mono ?_); rintro e w2 ⟨v_, rfl, hbm, hn⟩; have HB2 := Lib.hid hbm; have hvm := hbm.shape; clear hbm; obtain ⟨bn2, ba2, bl2, bc2, rfl⟩ := hvm) | (go_at_call 65; (with_reducible refine (bigMul_v (.agg #[.bool bn2, .slice ba2 bl2 bc2]) (.agg #[.bool nZ, .slice aZ lZ cZ]) 2199023255552 Z r5 3 18 Hr5.out _ HB2.out (HZ.out.of hb) (by decide)).mono ?_); rintro e w2 ⟨v_, rfl, hbm, hn⟩; replace HB2 := Lib.hid (HB2.out.of hn); have HB3 := Lib.hid hbm; have hvm := hbm.shape; clear hbm; obtain ⟨bn3, ba3, bl3, bc3, rfl⟩ := hvm)))
      refine hK.out _ _ hn ?_
      replace hb := hb.trans (hn.mono hb.size)
      clear hK K
      clear hn
      refine wpF_nil ?_
      clear hb
      intro w1 hg hb b1 lb1 nb1
      replace HB2 := Lib.hid (HB2.out.of hg)
      replace HB3 := Lib.hid (HB3.out.of hg)
      clear hg
      simp only [Act.put, ptrTo, List.setIfInBounds_toArray, List.set_cons_succ, List.set_cons_zero]
      simp only [List.drop_succ_cons, List.drop_zero]
      clear c1_4 c1_5 l1
      first | refine calls_w ?_ | refine name_world ?_ | refine list_world ?_ | refine post_world ?_
      intro U4 hU4
      subst hU4
      have D1 := Lib.hid Kk1.out.lt
      have D2 := Lib.hid hb0.size
      have k2 : Blk U4 b1 #[.bool false, .slice none 0 0] 28 := nb1
      have k1 := Kk1.out.of hb
      clear Kk1
      have D3 := Lib.hid lb1
      clear nb1 lb1
      replace HX := Lib.hid (HX.out.of hb)
      replace HY := Lib.hid (HY.out.of hb)
      replace HZ := Lib.hid (HZ.out.of hb)
      replace hb0 := hb0.trans (hb.mono hb0.size)
      clear hb
      generalize b1 = q2 at *
      have c2_0 : U4.cell? ⟨q2, 0, none⟩ = some (.bool false) := k2.cell 0
      have c2_1 : U4.cell? ⟨q2, 1, none⟩ = some (.slice none 0 0) := k2.cell 1
      have f2_0 := k2.free 0
      have f2_1 := k2.free 1
      have l2 := k2.lt
      go_wp2_with fail
      clear c2_0 c2_1 f2_0 f2_1 l2
      first | refine calls_w ?_ | refine name_world ?_ | refine list_world ?_ | refine post_world ?_
      intro V5 hV5
      clear HB2
      have D4 := Lib.hid k1.lt
      have D5 := Lib.hid k2.lt
      have D6 := Lib.hid hb0.size
      have nk1 : Blk V5 w.heap.size #[.bool nX, .slice aX lX cX, .bool nY, .slice aY lY cY, .bool nZ, .slice aZ lZ cZ] 72 := by rw [hV5]; exact (blk_setL k1 (by have := D1.out; have := D3.out; omega) 0 [.bool bn3, .slice ba3 bl3 bc3])
      have nk2 : Blk V5 q2 #[.bool bn3, .slice ba3 bl3 bc3] 28 := by rw [hV5]; exact (blk_full _ [.bool bn3, .slice ba3 bl3 bc3] k2 rfl)
      have nhb0 : Below w.heap.size w V5 := by rw [hV5]; exact (blw_setL hb0 (by have := D2.out; have := D3.out; omega) 0 [.bool bn3, .slice ba3 bl3 bc3])
      replace HX : Hid (Big V5 (.agg #[.bool nX, .slice aX lX cX]) X 18) := Lib.hid (by rw [hV5]; exact (big_setL HX.out (Blk.cell k2 0) (fun _ h => by cases h) 0 [.bool bn3, .slice ba3 bl3 bc3]))
      replace HY : Hid (Big V5 (.agg #[.bool nY, .slice aY lY cY]) Y 18) := Lib.hid (by rw [hV5]; exact (big_setL HY.out (Blk.cell k2 0) (fun _ h => by cases h) 0 [.bool bn3, .slice ba3 bl3 bc3]))
      replace HZ : Hid (Big V5 (.agg #[.bool nZ, .slice aZ lZ cZ]) Z 18) := Lib.hid (by rw [hV5]; exact (big_setL HZ.out (Blk.cell k2 0) (fun _ h => by cases h) 0 [.bool bn3, .slice ba3 bl3 bc3]))
      replace HB3 : Hid (Big V5 (.agg #[.bool bn3, .slice ba3 bl3 bc3]) r5 21) := Lib.hid (by rw [hV5]; exact (big_setL HB3.out (Blk.cell k2 0) (fun _ h => by cases h) 0 [.bool bn3, .slice ba3 bl3 bc3]))
      clear k1 k2
      clear hb0
      clear hV5
      have k1 := nk1
      clear nk1
      have k2 := nk2
      clear nk2
      have hb0 := nhb0
      clear nhb0
      obtain ⟨r6, hr6⟩ : ∃ o_o : Int, -r5 = o_o := ⟨_, rfl⟩
      have Hr6 := Lib.hid hr6
      clear hr6
      refine (bigMinus_v (.agg #[.bool bn3, .slice ba3 bl3 bc3]) r5 r6 21 Hr6.out _ HB3.out).mono ?_
      rintro e U6 ⟨v_, rfl, hbm, hn⟩
      replace k1 := k1.of hn
      replace k2 := k2.of hn
      replace HX := Lib.hid (HX.out.of hn)
      replace HY := Lib.hid (HY.out.of hn)
      replace HZ := Lib.hid (HZ.out.of hn)
      replace HB3 := Lib.hid (HB3.out.of hn)
      replace hb0 := hb0.trans (hn.mono hb0.size)
      clear hn
      have HB4 := Lib.hid hbm
      have hvm := hbm.shape
      clear hbm
      obtain ⟨bn4, ba4, bl4, bc4, rfl⟩ := hvm
      have c1_0 : U6.cell? ⟨w.heap.size, 0, none⟩ = some (.bool nX) := k1.cell 0
      have c1_1 : U6.cell? ⟨w.heap.size, 1, none⟩ = some (.slice aX lX cX) := k1.cell 1
      have l1 := k1.lt
      go_wp2_with fail
      clear c1_0 c1_1 l1
      first | refine calls_w ?_ | refine name_world ?_ | refine list_world ?_ | refine post_world ?_
      intro V7 hV7
      have D7 := Lib.hid k1.lt
      have D8 := Lib.hid k2.lt
      have D9 := Lib.hid hb0.size
      have hn : Below U6.heap.size U6 V7 := by rw [hV7]; exact below_a1 _ _
      have nk1 := k1.of hn
      have nk2 := k2.of hn
      replace HX := Lib.hid (HX.out.of hn)
      replace HY := Lib.hid (HY.out.of hn)
      replace HZ := Lib.hid (HZ.out.of hn)
      replace HB3 := Lib.hid (HB3.out.of hn)
      replace HB4 := Lib.hid (HB4.out.of hn)
      have nhb0 := hb0.trans (hn.mono hb0.size)
      clear hn
      have k3 : Blk V7 U6.heap.size #[.bool bn4, .slice ba4 bl4 bc4] 28 := by rw [hV7]; exact (Blk.new _ _ _)
      clear k1 k2
      clear hb0
      clear hV7
      have k1 := nk1
      clear nk1
      have k2 := nk2
      clear nk2
      have hb0 := nhb0
      clear nhb0
      obtain ⟨r7, hr7⟩ : ∃ o_o : Int, cmpI X r6 = o_o := ⟨_, rfl⟩
      have Hr7 := Lib.hid hr7
      clear hr7
      refine (bigCmp_v (.agg #[.bool nX, .slice aX lX cX]) (.agg #[.bool bn4, .slice ba4 bl4 bc4]) X r6 18 21 r7 Hr7.out _ HX.out HB4.out).mono ?_
      rintro e U8 ⟨rfl, hn⟩
      replace k1 := k1.of hn
      replace k2 := k2.of hn
      replace k3 := k3.of hn
      replace HX := Lib.hid (HX.out.of hn)
      replace HY := Lib.hid (HY.out.of hn)
      replace HZ := Lib.hid (HZ.out.of hn)
      replace HB3 := Lib.hid (HB3.out.of hn)
      replace HB4 := Lib.hid (HB4.out.of hn)
      replace hb0 := hb0.trans (hn.mono hb0.size)
      clear hn
      obtain ⟨z8, hz8⟩ : ∃ o_o : Bool, decide (0 ≤ r7) = o_o := ⟨_, rfl⟩
      cases z8
      · have e0 : false = R0 := by rw [← HR0.out]; unfold rspR; (try rw [Hr1.out]); (try rw [hz2]); (try rw [Hr3.out]); (try rw [hz4]); (try rw [Hr5.out]); (try rw [Hr6.out]); (try rw [Hr7.out]); (try rw [hz8]); all_goals first | rfl | simp
        subst e0
        go_wp2
        first | go_ret | go_ret2
        exact ⟨by first | rfl | simp, hb0⟩
      · have c1_0 : U8.cell? ⟨w.heap.size, 0, none⟩ = some (.bool nX) := k1.cell 0
        have c1_1 : U8.cell? ⟨w.heap.size, 1, none⟩ = some (.slice aX lX cX) := k1.cell 1
        have l1 := k1.lt
        have c2_0 : U8.cell? ⟨q2, 0, none⟩ = some (.bool bn3) := k2.cell 0
        have c2_1 : U8.cell? ⟨q2, 1, none⟩ = some (.slice ba3 bl3 bc3) := k2.cell 1
        have l2 := k2.lt
        go_wp2_with fail
        clear c1_0 c1_1 l1 c2_0 c2_1 l2
        obtain ⟨r9, hr9⟩ : ∃ o_o : Int, cmpI X r5 = o_o := ⟨_, rfl⟩
        have Hr9 := Lib.hid hr9
        clear hr9
        refine (bigCmp_v (.agg #[.bool nX, .slice aX lX cX]) (.agg #[.bool bn3, .slice ba3 bl3 bc3]) X r5 18 21 r9 Hr9.out _ HX.out HB3.out).mono ?_
        rintro e U9 ⟨rfl, hn⟩
        replace k1 := k1.of hn
        replace k2 := k2.of hn
        replace k3 := k3.of hn
        replace HX := Lib.hid (HX.out.of hn)
        replace HY := Lib.hid (HY.out.of hn)
        replace HZ := Lib.hid (HZ.out.of hn)
        replace HB3 := Lib.hid (HB3.out.of hn)
        replace HB4 := Lib.hid (HB4.out.of hn)
        replace hb0 := hb0.trans (hn.mono hb0.size)
        clear hn
        obtain ⟨z10, hz10⟩ : ∃ o_o : Bool, decide (r9 ≤ 0) = o_o := ⟨_, rfl⟩
        cases z10
        · have e0 : false = R0 := by rw [← HR0.out]; unfold rspR; (try rw [Hr1.out]); (try rw [hz2]); (try rw [Hr3.out]); (try rw [hz4]); (try rw [Hr5.out]); (try rw [Hr6.out]); (try rw [Hr7.out]); (try rw [hz8]); (try rw [Hr9.out]); (try rw [hz10]); all_goals first | rfl | simp
          subst e0
          go_wp2
          first | go_ret | go_ret2
          exact ⟨by first | rfl | simp, hb0⟩
        · have c1_2 : U9.cell? ⟨w.heap.size, 2, none⟩ = some (.bool nY) := k1.cell 2
          have c1_3 : U9.cell? ⟨w.heap.size, 3, none⟩ = some (.slice aY lY cY) := k1.cell 3
          have l1 := k1.lt
          have c3_0 : U9.cell? ⟨U6.heap.size, 0, none⟩ = some (.bool bn4) := k3.cell 0
          have c3_1 : U9.cell? ⟨U6.heap.size, 1, none⟩ = some (.slice ba4 bl4 bc4) := k3.cell 1
          have l3 := k3.lt
          go_wp2_with fail
          clear c1_2 c1_3 l1 c3_0 c3_1 l3
          obtain ⟨r11, hr11⟩ : ∃ o_o : Int, cmpI Y r6 = o_o := ⟨_, rfl⟩
          have Hr11 := Lib.hid hr11
          clear hr11
          refine (bigCmp_v (.agg #[.bool nY, .slice aY lY cY]) (.agg #[.bool bn4, .slice ba4 bl4 bc4]) Y r6 18 21 r11 Hr11.out _ HY.out HB4.out).mono ?_
          rintro e U10 ⟨rfl, hn⟩
          clear HB4
          clear k3
          replace k1 := k1.of hn
          replace k2 := k2.of hn
          replace HX := Lib.hid (HX.out.of hn)
          replace HY := Lib.hid (HY.out.of hn)
          replace HZ := Lib.hid (HZ.out.of hn)
          replace HB3 := Lib.hid (HB3.out.of hn)
          replace hb0 := hb0.trans (hn.mono hb0.size)
          clear hn
          obtain ⟨z12, hz12⟩ : ∃ o_o : Bool, decide (0 ≤ r11) = o_o := ⟨_, rfl⟩
          cases z12
          · have e0 : false = R0 := by rw [← HR0.out]; unfold rspR; (try rw [Hr1.out]); (try rw [hz2]); (try rw [Hr3.out]); (try rw [hz4]); (try rw [Hr5.out]); (try rw [Hr6.out]); (try rw [Hr7.out]); (try rw [hz8]); (try rw [Hr9.out]); (try rw [hz10]); (try rw [Hr11.out]); (try rw [hz12]); all_goals first | rfl | simp
            subst e0
            go_wp2
            first | go_ret | go_ret2
            exact ⟨by first | rfl | simp, hb0⟩
          · have c1_2 : U10.cell? ⟨w.heap.size, 2, none⟩ = some (.bool nY) := k1.cell 2
            have c1_3 : U10.cell? ⟨w.heap.size, 3, none⟩ = some (.slice aY lY cY) := k1.cell 3
            have l1 := k1.lt
            have c2_0 : U10.cell? ⟨q2, 0, none⟩ = some (.bool bn3) := k2.cell 0
            have c2_1 : U10.cell? ⟨q2, 1, none⟩ = some (.slice ba3 bl3 bc3) := k2.cell 1
            have l2 := k2.lt
            go_wp2_with fail
            clear c1_2 c1_3 l1 c2_0 c2_1 l2
            obtain ⟨r13, hr13⟩ : ∃ o_o : Int, cmpI Y r5 = o_o := ⟨_, rfl⟩
            have Hr13 := Lib.hid hr13
            clear hr13
            refine (bigCmp_v (.agg #[.bool nY, .slice aY lY cY]) (.agg #[.bool bn3, .slice ba3 bl3 bc3]) Y r5 18 21 r13 Hr13.out _ HY.out HB3.out).mono ?_
            rintro e U11 ⟨rfl, hn⟩
            clear HX HY HZ HB3
            clear k1 k2
            replace hb0 := hb0.trans (hn.mono hb0.size)
            clear hn
            have e0 : decide (r13 ≤ 0) = R0 := by rw [← HR0.out]; unfold rspR; (try rw [Hr1.out]); (try rw [hz2]); (try rw [Hr3.out]); (try rw [hz4]); (try rw [Hr5.out]); (try rw [Hr6.out]); (try rw [Hr7.out]); (try rw [hz8]); (try rw [Hr9.out]); (try rw [hz10]); (try rw [Hr11.out]); (try rw [hz12]); (try rw [Hr13.out]); all_goals first | rfl | simp
            subst e0
            go_wp2
            first | go_ret | go_ret2
            exact ⟨by first | rfl | simp, hb0⟩
    · have e0 : false = R0 := by rw [← HR0.out]; unfold rspR; (try rw [Hr1.out]); (try rw [hz2]); (try rw [Hr3.out]); (try rw [hz4]); all_goals first | rfl | simp
      subst e0
      go_wp2
      first | go_ret | go_ret2
      exact ⟨by first | rfl | simp, hb0⟩
  · have c1_4 : V1.cell? ⟨w.heap.size, 4, none⟩ = some (.bool nZ) := k1.cell 4
    have c1_5 : V1.cell? ⟨w.heap.size, 5, none⟩ = some (.slice aZ lZ cZ) := k1.cell 5
    have l1 := k1.lt
    have Kk1 := Lib.hid k1
    clear k1
    refine wp_region_up V1.heap.size 8 [(true, 0), (true, 1), (false, 2), (true, 3), (true, 4), (true, 5), (true, 6), (false, 7)] (by kernel_rfl) (by kernel_rfl) (fun _ _ d _ _ h => by cases d <;> exact h) ?_
    have hb : Below V1.heap.size V1 V1.drew := (Below.refl _ _).drew
    iterate 2
      refine wpS_takeL rfl rfl ?_
      go_big_quiet_step (rfl)
      refine wpQuiet_nil ?_
    refine wpS_doL rfl ?_
    intro K hK
    go_wp2_with ((go_at_call 67; (with_reducible refine (bigSign_v (.agg #[.bool nZ, .slice aZ lZ cZ]) Z 18 r1 Hr1.out _ (HZ.out.of hb)).mono ?_); rintro e w2 ⟨rfl, hn⟩))
    replace hb := hb.trans (hn.mono hb.size)
    refine hK.out _ _ (up_iff.2 hb) ?_
    clear hK K
    clear hn
    iterate 4
      refine wpS_takeL rfl rfl ?_
      go_big_quiet_step (rfl)
      refine wpQuiet_nil ?_
    refine wpS_doL rfl ?_
    intro K hK
    go_wp2_with ((go_at_call 67; (with_reducible refine (bigSign_v (.agg #[.bool nZ, .slice aZ lZ cZ]) Z 18 r1 Hr1.out _ (HZ.out.of hb)).mono ?_); rintro e w2 ⟨rfl, hn⟩))
    try replace hb := hb.trans (hn.mono hb.size)
    refine hK.out _ _ (up_iff.2 hb) ?_
    clear hK K
    try clear hn
    refine wpS_nil ?_
    simp only [List.drop_succ_cons, List.drop_zero]
    first | refine calls_w ?_ | refine name_world ?_ | refine list_world ?_ | refine post_world ?_
    intro U12 hU12
    first | subst hU12 | (rw [← hU12] at hb; clear hU12)
    clear c1_4 c1_5 l1
    have k1 := Kk1.out.of hb
    clear Kk1
    replace HX := Lib.hid (HX.out.of hb)
    replace HY := Lib.hid (HY.out.of hb)
    replace HZ := Lib.hid (HZ.out.of hb)
    replace hb0 := hb0.trans (hb.mono hb0.size)
    clear hb
    have e0 : false = R0 := by rw [← HR0.out]; unfold rspR; (try rw [Hr1.out]); (try rw [hz2]); all_goals first | rfl | simp
    subst e0
    go_wp2
    first | go_ret | go_ret2
    exact ⟨by first | rfl | simp, hb0⟩

def rspC (X : Int) (Y : Int) (Z : Int) (X2 : Int) (Y2 : Int) (Z2 : Int) : Int := (bif ((cmpI (X * Z2) (X2 * Z)) == 0) then (cmpI (Y * Z2) (Y2 * Z)) else (cmpI (X * Z2) (X2 * Z)))

theorem rspC_in (X : Int) (Y : Int) (Z : Int) (X2 : Int) (Y2 : Int) (Z2 : Int)  : In64 (rspC X Y Z X2 Y2 Z2) := by
  unfold rspC
  exact (cond_64 (cmpI_64 _ _) (cmpI_64 _ _))

set_option maxRecDepth 100000 in
set_option maxHeartbeats 4000000 in

theorem rSpC_is (X : Int) (Y : Int) (Z : Int) (X2 : Int) (Y2 : Int) (Z2 : Int)  (R0 : Int) (hR0 : rspC X Y Z X2 Y2 Z2 = R0)  (nX : Bool) (aX : Option Addr) (lX cX : Nat) (nY : Bool) (aY : Option Addr) (lY cY : Nat) (nZ : Bool) (aZ : Option Addr) (lZ cZ : Nat) (nX2 : Bool) (aX2 : Option Addr) (lX2 cX2 : Nat) (nY2 : Bool) (aY2 : Option Addr) (lY2 cY2 : Nat) (nZ2 : Bool) (aZ2 : Option Addr) (lZ2 cZ2 : Nat) (w : World) (hX : Big w (.agg #[.bool nX, .slice aX lX cX]) X 18) (hY : Big w (.agg #[.bool nY, .slice aY lY cY]) Y 18) (hZ : Big w (.agg #[.bool nZ, .slice aZ lZ cZ]) Z 18) (hX2 : Big w (.agg #[.bool nX2, .slice aX2 lX2 cX2]) X2 18) (hY2 : Big w (.agg #[.bool nY2, .slice aY2 lY2 cY2]) Y2 18) (hZ2 : Big w (.agg #[.bool nZ2, .slice aZ2 lZ2 cZ2]) Z2 18) :
    Calls Try.prog 56 #[.agg #[.bool nX, .slice aX lX cX, .bool nY, .slice aY lY cY, .bool nZ, .slice aZ lZ cZ], .agg #[.bool nX2, .slice aX2 lX2 cX2, .bool nY2, .slice aY2 lY2 cY2, .bool nZ2, .slice aZ2 lZ2 cZ2]] w fun e w' => e = .returned (.int .i64 R0) ∧ Below w.heap.size w w' := by

  have HX := Lib.hid hX
  clear hX
  have HY := Lib.hid hY
  clear hY
  have HZ := Lib.hid hZ
  clear hZ
  have HX2 := Lib.hid hX2
  clear hX2
  have HY2 := Lib.hid hY2
  clear hY2
  have HZ2 := Lib.hid hZ2
  clear hZ2
  have HR0 := Lib.hid hR0
  clear hR0
  go_enter Try.func56, Try.ntmps56
  go_wp2_with fail
  first | refine calls_w ?_ | refine name_world ?_ | refine list_world ?_ | refine post_world ?_
  intro V1 hV1
  have hn : Below w.heap.size w V1 := by rw [hV1]; exact below_a2 _ _ _
  replace HX := Lib.hid (HX.out.of hn)
  replace HY := Lib.hid (HY.out.of hn)
  replace HZ := Lib.hid (HZ.out.of hn)
  replace HX2 := Lib.hid (HX2.out.of hn)
  replace HY2 := Lib.hid (HY2.out.of hn)
  replace HZ2 := Lib.hid (HZ2.out.of hn)
  have nhb0 := hn
  have k1 : Blk V1 w.heap.size #[.bool nX, .slice aX lX cX, .bool nY, .slice aY lY cY, .bool nZ, .slice aZ lZ cZ] 72 := by rw [hV1]; exact ((Blk.new _ _ _).alloc _)
  have k2 : Blk V1 (w.heap.size + 1) #[.bool nX2, .slice aX2 lX2 cX2, .bool nY2, .slice aY2 lY2 cY2, .bool nZ2, .slice aZ2 lZ2 cZ2] 72 := by rw [hV1]; exact (Blk.new1 _ _ _ _)
  clear hV1
  have hb0 := nhb0
  clear nhb0
  obtain ⟨r1, hr1⟩ : ∃ o_o : Int, X * Z2 = o_o := ⟨_, rfl⟩
  have Hr1 := Lib.hid hr1
  clear hr1
  have c1_0 : V1.cell? ⟨w.heap.size, 0, none⟩ = some (.bool nX) := k1.cell 0
  have c1_1 : V1.cell? ⟨w.heap.size, 1, none⟩ = some (.slice aX lX cX) := k1.cell 1
  have c1_4 : V1.cell? ⟨w.heap.size, 4, none⟩ = some (.bool nZ) := k1.cell 4
  have c1_5 : V1.cell? ⟨w.heap.size, 5, none⟩ = some (.slice aZ lZ cZ) := k1.cell 5
  have l1 := k1.lt
  have c2_0 : V1.cell? ⟨(w.heap.size + 1), 0, none⟩ = some (.bool nX2) := k2.cell 0
  have c2_1 : V1.cell? ⟨(w.heap.size + 1), 1, none⟩ = some (.slice aX2 lX2 cX2) := k2.cell 1
  have c2_4 : V1.cell? ⟨(w.heap.size + 1), 4, none⟩ = some (.bool nZ2) := k2.cell 4
  have c2_5 : V1.cell? ⟨(w.heap.size + 1), 5, none⟩ = some (.slice aZ2 lZ2 cZ2) := k2.cell 5
  have l2 := k2.lt
  have Kk1 := Lib.hid k1
  clear k1
  have Kk2 := Lib.hid k2
  clear k2
  refine wp_region_up V1.heap.size 9 [(true, 0), (true, 1), (true, 2), (true, 3), (true, 5), (true, 6), (true, 7), (true, 8), (false, 4)] (by kernel_rfl) (by kernel_rfl) (fun _ _ d _ _ h => by cases d <;> exact h) ?_
  have hb : Below V1.heap.size V1 V1.drew := (Below.refl _ _).drew
  iterate 8
    refine wpS_takeL rfl rfl ?_
    go_big_quiet_step (rfl)
    refine wpQuiet_nil ?_
  refine wpS_doL rfl ?_
  intro K hK
  go_wp2_with ((go_at_call 65; (with_reducible refine (bigMul_v (.agg #[.bool nX, .slice aX lX cX]) (.agg #[.bool nZ2, .slice aZ2 lZ2 cZ2]) X Z2 r1 18 18 Hr1.out _ (HX.out.of hb) (HZ2.out.of hb) (by decide)).mono ?_); rintro e w2 ⟨v_, rfl, hbm, hn⟩; have HB1 := Lib.hid hbm; have hvm := hbm.shape; clear hbm; obtain ⟨bn1, ba1, bl1, bc1, rfl⟩ := hvm))
  replace hb := hb.trans (hn.mono hb.size)
  refine hK.out _ _ (up_iff.2 hb) ?_
  clear hK K
  clear hn
  refine wpS_nil ?_
  simp only [List.drop_succ_cons, List.drop_zero]
  first | refine calls_w ?_ | refine name_world ?_ | refine list_world ?_ | refine post_world ?_
  intro U2 hU2
  first | subst hU2 | (rw [← hU2] at hb; clear hU2)
  clear c1_0 c1_1 c1_4 c1_5 l1 c2_0 c2_1 c2_4 c2_5 l2
  have k1 := Kk1.out.of hb
  clear Kk1
  have k2 := Kk2.out.of hb
  clear Kk2
  replace HX := Lib.hid (HX.out.of hb)
  replace HY := Lib.hid (HY.out.of hb)
  replace HZ := Lib.hid (HZ.out.of hb)
  replace HX2 := Lib.hid (HX2.out.of hb)
  replace HY2 := Lib.hid (HY2.out.of hb)
  replace HZ2 := Lib.hid (HZ2.out.of hb)
  replace hb0 := hb0.trans (hb.mono hb0.size)
  clear hb
  go_wp2_with fail
  obtain ⟨r2, hr2⟩ : ∃ o_o : Int, X2 * Z = o_o := ⟨_, rfl⟩
  have Hr2 := Lib.hid hr2
  clear hr2
  refine (bigMul_v (.agg #[.bool nX2, .slice aX2 lX2 cX2]) (.agg #[.bool nZ, .slice aZ lZ cZ]) X2 Z r2 18 18 Hr2.out _ HX2.out HZ.out (by decide)).mono ?_
  rintro e U3 ⟨v_, rfl, hbm, hn⟩
  replace k1 := k1.of hn
  replace k2 := k2.of hn
  replace HX := Lib.hid (HX.out.of hn)
  replace HY := Lib.hid (HY.out.of hn)
  replace HZ := Lib.hid (HZ.out.of hn)
  replace HX2 := Lib.hid (HX2.out.of hn)
  replace HY2 := Lib.hid (HY2.out.of hn)
  replace HZ2 := Lib.hid (HZ2.out.of hn)
  replace HB1 := Lib.hid (HB1.out.of hn)
  replace hb0 := hb0.trans (hn.mono hb0.size)
  clear hn
  have HB2 := Lib.hid hbm
  have hvm := hbm.shape
  clear hbm
  obtain ⟨bn2, ba2, bl2, bc2, rfl⟩ := hvm
  go_wp2_with fail
  obtain ⟨r3, hr3⟩ : ∃ o_o : Int, cmpI r1 r2 = o_o := ⟨_, rfl⟩
  have Hr3 := Lib.hid hr3
  clear hr3
  refine (bigCmp_v (.agg #[.bool bn1, .slice ba1 bl1 bc1]) (.agg #[.bool bn2, .slice ba2 bl2 bc2]) r1 r2 36 36 r3 Hr3.out _ HB1.out HB2.out).mono ?_
  rintro e U4 ⟨rfl, hn⟩
  clear HB1 HB2
  replace k1 := k1.of hn
  replace k2 := k2.of hn
  replace HX := Lib.hid (HX.out.of hn)
  replace HY := Lib.hid (HY.out.of hn)
  replace HZ := Lib.hid (HZ.out.of hn)
  replace HX2 := Lib.hid (HX2.out.of hn)
  replace HY2 := Lib.hid (HY2.out.of hn)
  replace HZ2 := Lib.hid (HZ2.out.of hn)
  replace hb0 := hb0.trans (hn.mono hb0.size)
  clear hn
  obtain ⟨z4, hz4⟩ : ∃ o_o : Bool, (r3 == 0) = o_o := ⟨_, rfl⟩
  cases z4
  · have nz4 : ¬ r3 = 0 := by simpa using hz4
    have e0 : r3 = R0 := by rw [← HR0.out]; unfold rspC; (try rw [Hr1.out]); (try rw [Hr2.out]); (try rw [Hr3.out]); (try rw [hz4]); all_goals first | rfl | simp
    subst e0
    go_wp2
    first | go_ret | go_ret2
    exact ⟨by first | rfl | simp, hb0⟩
  · obtain rfl : r3 = 0 := by simpa using hz4
    clear hz4
    go_wp2_with fail
    obtain ⟨r5, hr5⟩ : ∃ o_o : Int, Y * Z2 = o_o := ⟨_, rfl⟩
    have Hr5 := Lib.hid hr5
    clear hr5
    have c1_2 : U4.cell? ⟨w.heap.size, 2, none⟩ = some (.bool nY) := k1.cell 2
    have c1_3 : U4.cell? ⟨w.heap.size, 3, none⟩ = some (.slice aY lY cY) := k1.cell 3
    have c1_4 : U4.cell? ⟨w.heap.size, 4, none⟩ = some (.bool nZ) := k1.cell 4
    have c1_5 : U4.cell? ⟨w.heap.size, 5, none⟩ = some (.slice aZ lZ cZ) := k1.cell 5
    have l1 := k1.lt
    have c2_2 : U4.cell? ⟨(w.heap.size + 1), 2, none⟩ = some (.bool nY2) := k2.cell 2
    have c2_3 : U4.cell? ⟨(w.heap.size + 1), 3, none⟩ = some (.slice aY2 lY2 cY2) := k2.cell 3
    have c2_4 : U4.cell? ⟨(w.heap.size + 1), 4, none⟩ = some (.bool nZ2) := k2.cell 4
    have c2_5 : U4.cell? ⟨(w.heap.size + 1), 5, none⟩ = some (.slice aZ2 lZ2 cZ2) := k2.cell 5
    have l2 := k2.lt
    have Kk1 := Lib.hid k1
    clear k1
    have Kk2 := Lib.hid k2
    clear k2
    refine wp_region_up U4.heap.size 9 [(true, 0), (true, 1), (true, 2), (true, 3), (true, 5), (true, 6), (true, 7), (true, 8), (false, 4)] (by kernel_rfl) (by kernel_rfl) (fun _ _ d _ _ h => by cases d <;> exact h) ?_
    have hb : Below U4.heap.size U4 U4.drew := (Below.refl _ _).drew
    iterate 8
      refine wpS_takeL rfl rfl ?_
      go_big_quiet_step (rfl)
      refine wpQuiet_nil ?_
    refine wpS_doL rfl ?_
    intro K hK
    go_wp2_with ((go_at_call 65; (with_reducible refine (bigMul_v (.agg #[.bool nY, .slice aY lY cY]) (.agg #[.bool nZ2, .slice aZ2 lZ2 cZ2]) Y Z2 r5 18 18 Hr5.out _ (HY.out.of hb) (HZ2.out.of hb) (by decide)).mono ?_); rintro e w2 ⟨v_, rfl, hbm, hn⟩; have HB3 := Lib.hid hbm; have hvm := hbm.shape; clear hbm; obtain ⟨bn3, ba3, bl3, bc3, rfl⟩ := hvm))
    replace hb := hb.trans (hn.mono hb.size)
    refine hK.out _ _ (up_iff.2 hb) ?_
    clear hK K
    clear hn
    refine wpS_nil ?_
    simp only [List.drop_succ_cons, List.drop_zero]
    first | refine calls_w ?_ | refine name_world ?_ | refine list_world ?_ | refine post_world ?_
    intro U5 hU5
    first | subst hU5 | (rw [← hU5] at hb; clear hU5)
    clear c1_2 c1_3 c1_4 c1_5 l1 c2_2 c2_3 c2_4 c2_5 l2
    have k1 := Kk1.out.of hb
    clear Kk1
    have k2 := Kk2.out.of hb
    clear Kk2
    replace HX := Lib.hid (HX.out.of hb)
    replace HY := Lib.hid (HY.out.of hb)
    replace HZ := Lib.hid (HZ.out.of hb)
    replace HX2 := Lib.hid (HX2.out.of hb)
    replace HY2 := Lib.hid (HY2.out.of hb)
    replace HZ2 := Lib.hid (HZ2.out.of hb)
    replace hb0 := hb0.trans (hb.mono hb0.size)
    clear hb
    go_wp2_with fail
    obtain ⟨r6, hr6⟩ : ∃ o_o : Int, Y2 * Z = o_o := ⟨_, rfl⟩
    have Hr6 := Lib.hid hr6
    clear hr6
    refine (bigMul_v (.agg #[.bool nY2, .slice aY2 lY2 cY2]) (.agg #[.bool nZ, .slice aZ lZ cZ]) Y2 Z r6 18 18 Hr6.out _ HY2.out HZ.out (by decide)).mono ?_
    rintro e U6 ⟨v_, rfl, hbm, hn⟩
    clear HX HY HZ HX2 HY2 HZ2
    clear k1 k2
    replace HB3 := Lib.hid (HB3.out.of hn)
    replace hb0 := hb0.trans (hn.mono hb0.size)
    clear hn
    have HB4 := Lib.hid hbm
    have hvm := hbm.shape
    clear hbm
    obtain ⟨bn4, ba4, bl4, bc4, rfl⟩ := hvm
    go_wp2_with fail
    obtain ⟨r7, hr7⟩ : ∃ o_o : Int, cmpI r5 r6 = o_o := ⟨_, rfl⟩
    have Hr7 := Lib.hid hr7
    clear hr7
    refine (bigCmp_v (.agg #[.bool bn3, .slice ba3 bl3 bc3]) (.agg #[.bool bn4, .slice ba4 bl4 bc4]) r5 r6 36 36 r7 Hr7.out _ HB3.out HB4.out).mono ?_
    rintro e U7 ⟨rfl, hn⟩
    clear HB3 HB4
    replace hb0 := hb0.trans (hn.mono hb0.size)
    clear hn
    have e0 : r7 = R0 := by rw [← HR0.out]; unfold rspC; (try rw [Hr1.out]); (try rw [Hr2.out]); (try rw [Hr3.out]); (try rw [Hr5.out]); (try rw [Hr6.out]); (try rw [Hr7.out]); all_goals first | rfl | simp
    subst e0
    go_wp2
    first | go_ret | go_ret2
    exact ⟨by first | rfl | simp, hb0⟩

def rsde (ax : Int) (ay : Int) (bx : Int) (b_y : Int) (X : Int) (Y : Int) (Z : Int) : Int := (((((wrap64 (bx - ax))) * (Y - (ay * Z))) - (((wrap64 (b_y - ay))) * (X - (ax * Z)))).sign)

theorem rsde_in (ax : Int) (ay : Int) (bx : Int) (b_y : Int) (X : Int) (Y : Int) (Z : Int) (_iax : In64 ax) (_iay : In64 ay) (_ibx : In64 bx) (_ib_y : In64 b_y) : In64 (rsde ax ay bx b_y X Y Z) := by
  unfold rsde
  exact (sign_64 _)

set_option maxRecDepth 100000 in
set_option maxHeartbeats 4000000 in

theorem rSide_is (ax : Int) (ay : Int) (bx : Int) (b_y : Int) (X : Int) (Y : Int) (Z : Int)  (R0 : Int) (hR0 : rsde ax ay bx b_y X Y Z = R0) (_iax : In64 ax) (_iay : In64 ay) (_ibx : In64 bx) (_ib_y : In64 b_y) (nX : Bool) (aX : Option Addr) (lX cX : Nat) (nY : Bool) (aY : Option Addr) (lY cY : Nat) (nZ : Bool) (aZ : Option Addr) (lZ cZ : Nat) (w : World) (hX : Big w (.agg #[.bool nX, .slice aX lX cX]) X 18) (hY : Big w (.agg #[.bool nY, .slice aY lY cY]) Y 18) (hZ : Big w (.agg #[.bool nZ, .slice aZ lZ cZ]) Z 18) :
    Calls Try.prog 72 #[.agg #[.int .i64 ax, .int .i64 ay], .agg #[.int .i64 bx, .int .i64 b_y], .agg #[.bool nX, .slice aX lX cX, .bool nY, .slice aY lY cY, .bool nZ, .slice aZ lZ cZ]] w fun e w' => e = .returned (.int .i64 R0) ∧ Below w.heap.size w w' := by

  have HX := Lib.hid hX
  clear hX
  have HY := Lib.hid hY
  clear hY
  have HZ := Lib.hid hZ
  clear hZ
  have HR0 := Lib.hid hR0
  clear hR0
  go_enter Try.func72, Try.ntmps72
  go_wp2_with fail
  first | refine calls_w ?_ | refine name_world ?_ | refine list_world ?_ | refine post_world ?_
  intro V1 hV1
  have hn : Below w.heap.size w V1 := by rw [hV1]; exact below_a3 _ _ _ _
  replace HX := Lib.hid (HX.out.of hn)
  replace HY := Lib.hid (HY.out.of hn)
  replace HZ := Lib.hid (HZ.out.of hn)
  have nhb0 := hn
  have k1 : Blk V1 w.heap.size #[.int .i64 ax, .int .i64 ay] 31 := by rw [hV1]; exact (((Blk.new _ _ _).alloc _).alloc _)
  have k2 : Blk V1 (w.heap.size + 1) #[.int .i64 bx, .int .i64 b_y] 31 := by rw [hV1]; exact ((Blk.new1 _ _ _ _).alloc _)
  have k3 : Blk V1 (w.heap.size + 1 + 1) #[.bool nX, .slice aX lX cX, .bool nY, .slice aY lY cY, .bool nZ, .slice aZ lZ cZ] 72 := by rw [hV1]; exact (Blk.new2 _ _ _ _ _)
  clear hV1
  have hb0 := nhb0
  clear nhb0
  obtain ⟨r1, hr1⟩ : ∃ o_o : Int, (wrap64 (bx - ax)) = o_o := ⟨_, rfl⟩
  have Hr1 := Lib.hid hr1
  clear hr1
  obtain ⟨r2, hr2⟩ : ∃ o_o : Int, ay * Z = o_o := ⟨_, rfl⟩
  have Hr2 := Lib.hid hr2
  clear hr2
  obtain ⟨r3, hr3⟩ : ∃ o_o : Int, Y - r2 = o_o := ⟨_, rfl⟩
  have Hr3 := Lib.hid hr3
  clear hr3
  obtain ⟨r4, hr4⟩ : ∃ o_o : Int, r1 * r3 = o_o := ⟨_, rfl⟩
  have Hr4 := Lib.hid hr4
  clear hr4
  have c1_0 : V1.cell? ⟨w.heap.size, 0, none⟩ = some (.int .i64 ax) := k1.cell 0
  have c1_1 : V1.cell? ⟨w.heap.size, 1, none⟩ = some (.int .i64 ay) := k1.cell 1
  have l1 := k1.lt
  have c2_0 : V1.cell? ⟨(w.heap.size + 1), 0, none⟩ = some (.int .i64 bx) := k2.cell 0
  have l2 := k2.lt
  have c3_2 : V1.cell? ⟨(w.heap.size + 1 + 1), 2, none⟩ = some (.bool nY) := k3.cell 2
  have c3_3 : V1.cell? ⟨(w.heap.size + 1 + 1), 3, none⟩ = some (.slice aY lY cY) := k3.cell 3
  have c3_4 : V1.cell? ⟨(w.heap.size + 1 + 1), 4, none⟩ = some (.bool nZ) := k3.cell 4
  have c3_5 : V1.cell? ⟨(w.heap.size + 1 + 1), 5, none⟩ = some (.slice aZ lZ cZ) := k3.cell 5
  have l3 := k3.lt
  have Kk1 := Lib.hid k1
  clear k1
  have Kk2 := Lib.hid k2
  clear k2
  have Kk3 := Lib.hid k3
  clear k3
  refine wp_region_float1 17 16 [(true, 0), (true, 1), (true, 2), (true, 3), (true, 4), (true, 6), (true, 7), (true, 8), (true, 9), (true, 11), (true, 12), (false, 5), (false, 10), (false, 13), (false, 14), (false, 15)] (by kernel_rfl) (by kernel_rfl) (fun _ _ d _ _ => by cases d <;> exact Iff.rfl) rfl rfl rfl alCr9_0 ?_
  have hb : Below V1.heap.size V1 V1.drew := (Below.refl _ _).drew
  iterate 11
    refine wpF_take rfl rfl ?_
    go_big_quiet_step (rfl)
    refine wpQuiet_nil ?_
  refine wpF_do rfl ?_
  intro w1 hg K hK
  replace hb := hb.trans (hg.mono hb.size)
  try replace HB1 := Lib.hid (HB1.out.of hg); try replace HB2 := Lib.hid (HB2.out.of hg); try replace HB3 := Lib.hid (HB3.out.of hg); try replace HB4 := Lib.hid (HB4.out.of hg); try replace HB5 := Lib.hid (HB5.out.of hg)
  clear hg
  go_wp2_with ((first | (go_at_call 66; (with_reducible refine (bigOf_v (wrap64 (bx - ax)) r1 Hr1.out (wrap64_in _) _).mono ?_); rintro e w2 ⟨v_, rfl, hbm, hn⟩; have HB1 := Lib.hid hbm; have hvm := hbm.shape; clear hbm; obtain ⟨bn1, ba1, bl1, bc1, rfl⟩ := hvm) | (go_at_call 66; (with_reducible refine (bigOf_v ay ay rfl _iay _).mono ?_); rintro e w2 ⟨v_, rfl, hbm, hn⟩; replace HB1 := Lib.hid (HB1.out.of hn); have HB2 := Lib.hid hbm; have hvm := hbm.shape; clear hbm; obtain ⟨bn2, ba2, bl2, bc2, rfl⟩ := hvm) | (go_at_call 65; (with_reducible refine (bigMul_v (.agg #[.bool bn2, .slice ba2 bl2 bc2]) (.agg #[.bool nZ, .slice aZ lZ cZ]) ay Z r2 5 18 Hr2.out _ HB2.out (HZ.out.of hb) (by decide)).mono ?_); rintro e w2 ⟨v_, rfl, hbm, hn⟩; replace HB1 := Lib.hid (HB1.out.of hn); replace HB2 := Lib.hid (HB2.out.of hn); have HB3 := Lib.hid hbm; have hvm := hbm.shape; clear hbm; obtain ⟨bn3, ba3, bl3, bc3, rfl⟩ := hvm) | (go_at_call 68; (with_reducible refine (bigSub_v (.agg #[.bool nY, .slice aY lY cY]) (.agg #[.bool bn3, .slice ba3 bl3 bc3]) Y r2 r3 23 Hr3.out _ ((HY.out.of hb).mono (by decide)) HB3.out (by decide)).mono ?_); rintro e w2 ⟨v_, rfl, hbm, hn⟩; replace HB1 := Lib.hid (HB1.out.of hn); replace HB2 := Lib.hid (HB2.out.of hn); replace HB3 := Lib.hid (HB3.out.of hn); have HB4 := Lib.hid hbm; have hvm := hbm.shape; clear hbm; obtain ⟨bn4, ba4, bl4, bc4, rfl⟩ := hvm) | (go_at_call 65; (with_reducible refine (bigMul_v (.agg #[.bool bn1, .slice ba1 bl1 bc1]) (.agg #[.bool bn4, .slice ba4 bl4 bc4]) r1 r3 r4 5 24 Hr4.out _ HB1.out HB4.out (by decide)).mono ?_); rintro e w2 ⟨v_, rfl, hbm, hn⟩; replace HB1 := Lib.hid (HB1.out.of hn); replace HB2 := Lib.hid (HB2.out.of hn); replace HB3 := Lib.hid (HB3.out.of hn); replace HB4 := Lib.hid (HB4.out.of hn); have HB5 := Lib.hid hbm; have hvm := hbm.shape; clear hbm; obtain ⟨bn5, ba5, bl5, bc5, rfl⟩ := hvm)))
  refine hK.out _ _ hn ?_
  replace hb := hb.trans (hn.mono hb.size)
  clear hK K
  clear hn
  refine wpF_do rfl ?_
  intro w1 hg K hK
  replace hb := hb.trans (hg.mono hb.size)
  try replace HB1 := Lib.hid (HB1.out.of hg); try replace HB2 := Lib.hid (HB2.out.of hg); try replace HB3 := Lib.hid (HB3.out.of hg); try replace HB4 := Lib.hid (HB4.out.of hg); try replace HB5 := Lib.hid (HB5.out.of hg)
  clear hg
  go_wp2_with ((first | (go_at_call 66; (with_reducible refine (bigOf_v (wrap64 (bx - ax)) r1 Hr1.out (wrap64_in _) _).mono ?_); rintro e w2 ⟨v_, rfl, hbm, hn⟩; have HB1 := Lib.hid hbm; have hvm := hbm.shape; clear hbm; obtain ⟨bn1, ba1, bl1, bc1, rfl⟩ := hvm) | (go_at_call 66; (with_reducible refine (bigOf_v ay ay rfl _iay _).mono ?_); rintro e w2 ⟨v_, rfl, hbm, hn⟩; replace HB1 := Lib.hid (HB1.out.of hn); have HB2 := Lib.hid hbm; have hvm := hbm.shape; clear hbm; obtain ⟨bn2, ba2, bl2, bc2, rfl⟩ := hvm) | (go_at_call 65; (with_reducible refine (bigMul_v (.agg #[.bool bn2, .slice ba2 bl2 bc2]) (.agg #[.bool nZ, .slice aZ lZ cZ]) ay Z r2 5 18 Hr2.out _ HB2.out (HZ.out.of hb) (by decide)).mono ?_); rintro e w2 ⟨v_, rfl, hbm, hn⟩; replace HB1 := Lib.hid (HB1.out.of hn); replace HB2 := Lib.hid (HB2.out.of hn); have HB3 := Lib.hid hbm; have hvm := hbm.shape; clear hbm; obtain ⟨bn3, ba3, bl3, bc3, rfl⟩ := hvm) | (go_at_call 68; (with_reducible refine (bigSub_v (.agg #[.bool nY, .slice aY lY cY]) (.agg #[.bool bn3, .slice ba3 bl3 bc3]) Y r2 r3 23 Hr3.out _ ((HY.out.of hb).mono (by decide)) HB3.out (by decide)).mono ?_); rintro e w2 ⟨v_, rfl, hbm, hn⟩; replace HB1 := Lib.hid (HB1.out.of hn); replace HB2 := Lib.hid (HB2.out.of hn); replace HB3 := Lib.hid (HB3.out.of hn); have HB4 := Lib.hid hbm; have hvm := hbm.shape; clear hbm; obtain ⟨bn4, ba4, bl4, bc4, rfl⟩ := hvm) | (go_at_call 65; (with_reducible refine (bigMul_v (.agg #[.bool bn1, .slice ba1 bl1 bc1]) (.agg #[.bool bn4, .slice ba4 bl4 bc4]) r1 r3 r4 5 24 Hr4.out _ HB1.out HB4.out (by decide)).mono ?_); rintro e w2 ⟨v_, rfl, hbm, hn⟩; replace HB1 := Lib.hid (HB1.out.of hn); replace HB2 := Lib.hid (HB2.out.of hn); replace HB3 := Lib.hid (HB3.out.of hn); replace HB4 := Lib.hid (HB4.out.of hn); have HB5 := Lib.hid hbm; have hvm := hbm.shape; clear hbm; obtain ⟨bn5, ba5, bl5, bc5, rfl⟩ := hvm)))
  refine hK.out _ _ hn ?_
  replace hb := hb.trans (hn.mono hb.size)
  clear hK K
  clear hn
  refine wpF_do rfl ?_
  intro w1 hg K hK
  replace hb := hb.trans (hg.mono hb.size)
  try replace HB1 := Lib.hid (HB1.out.of hg); try replace HB2 := Lib.hid (HB2.out.of hg); try replace HB3 := Lib.hid (HB3.out.of hg); try replace HB4 := Lib.hid (HB4.out.of hg); try replace HB5 := Lib.hid (HB5.out.of hg)
  clear hg
  go_wp2_with ((first | (go_at_call 66; (with_reducible refine (bigOf_v (wrap64 (bx - ax)) r1 Hr1.out (wrap64_in _) _).mono ?_); rintro e w2 ⟨v_, rfl, hbm, hn⟩; have HB1 := Lib.hid hbm; have hvm := hbm.shape; clear hbm; obtain ⟨bn1, ba1, bl1, bc1, rfl⟩ := hvm) | (go_at_call 66; (with_reducible refine (bigOf_v ay ay rfl _iay _).mono ?_); rintro e w2 ⟨v_, rfl, hbm, hn⟩; replace HB1 := Lib.hid (HB1.out.of hn); have HB2 := Lib.hid hbm; have hvm := hbm.shape; clear hbm; obtain ⟨bn2, ba2, bl2, bc2, rfl⟩ := hvm) | (go_at_call 65; (with_reducible refine (bigMul_v (.agg #[.bool bn2, .slice ba2 bl2 bc2]) (.agg #[.bool nZ, .slice aZ lZ cZ]) ay Z r2 5 18 Hr2.out _ HB2.out (HZ.out.of hb) (by decide)).mono ?_); rintro e w2 ⟨v_, rfl, hbm, hn⟩; replace HB1 := Lib.hid (HB1.out.of hn); replace HB2 := Lib.hid (HB2.out.of hn); have HB3 := Lib.hid hbm; have hvm := hbm.shape; clear hbm; obtain ⟨bn3, ba3, bl3, bc3, rfl⟩ := hvm) | (go_at_call 68; (with_reducible refine (bigSub_v (.agg #[.bool nY, .slice aY lY cY]) (.agg #[.bool bn3, .slice ba3 bl3 bc3]) Y r2 r3 23 Hr3.out _ ((HY.out.of hb).mono (by decide)) HB3.out (by decide)).mono ?_); rintro e w2 ⟨v_, rfl, hbm, hn⟩; replace HB1 := Lib.hid (HB1.out.of hn); replace HB2 := Lib.hid (HB2.out.of hn); replace HB3 := Lib.hid (HB3.out.of hn); have HB4 := Lib.hid hbm; have hvm := hbm.shape; clear hbm; obtain ⟨bn4, ba4, bl4, bc4, rfl⟩ := hvm) | (go_at_call 65; (with_reducible refine (bigMul_v (.agg #[.bool bn1, .slice ba1 bl1 bc1]) (.agg #[.bool bn4, .slice ba4 bl4 bc4]) r1 r3 r4 5 24 Hr4.out _ HB1.out HB4.out (by decide)).mono ?_); rintro e w2 ⟨v_, rfl, hbm, hn⟩; replace HB1 := Lib.hid (HB1.out.of hn); replace HB2 := Lib.hid (HB2.out.of hn); replace HB3 := Lib.hid (HB3.out.of hn); replace HB4 := Lib.hid (HB4.out.of hn); have HB5 := Lib.hid hbm; have hvm := hbm.shape; clear hbm; obtain ⟨bn5, ba5, bl5, bc5, rfl⟩ := hvm)))
  refine hK.out _ _ hn ?_
  replace hb := hb.trans (hn.mono hb.size)
  clear hK K
  clear hn
  refine wpF_do rfl ?_
  intro w1 hg K hK
  replace hb := hb.trans (hg.mono hb.size)
  try replace HB1 := Lib.hid (HB1.out.of hg); try replace HB2 := Lib.hid (HB2.out.of hg); try replace HB3 := Lib.hid (HB3.out.of hg); try replace HB4 := Lib.hid (HB4.out.of hg); try replace HB5 := Lib.hid (HB5.out.of hg)
  clear hg
  go_wp2_with ((first | (go_at_call 66; (with_reducible refine (bigOf_v (wrap64 (bx - ax)) r1 Hr1.out (wrap64_in _) _).mono ?_); rintro e w2 ⟨v_, rfl, hbm, hn⟩; have HB1 := Lib.hid hbm; have hvm := hbm.shape; clear hbm; obtain ⟨bn1, ba1, bl1, bc1, rfl⟩ := hvm) | (go_at_call 66; (with_reducible refine (bigOf_v ay ay rfl _iay _).mono ?_); rintro e w2 ⟨v_, rfl, hbm, hn⟩; replace HB1 := Lib.hid (HB1.out.of hn); have HB2 := Lib.hid hbm; have hvm := hbm.shape; clear hbm; obtain ⟨bn2, ba2, bl2, bc2, rfl⟩ := hvm) | (go_at_call 65; (with_reducible refine (bigMul_v (.agg #[.bool bn2, .slice ba2 bl2 bc2]) (.agg #[.bool nZ, .slice aZ lZ cZ]) ay Z r2 5 18 Hr2.out _ HB2.out (HZ.out.of hb) (by decide)).mono ?_); rintro e w2 ⟨v_, rfl, hbm, hn⟩; replace HB1 := Lib.hid (HB1.out.of hn); replace HB2 := Lib.hid (HB2.out.of hn); have HB3 := Lib.hid hbm; have hvm := hbm.shape; clear hbm; obtain ⟨bn3, ba3, bl3, bc3, rfl⟩ := hvm) | (go_at_call 68; (with_reducible refine (bigSub_v (.agg #[.bool nY, .slice aY lY cY]) (.agg #[.bool bn3, .slice ba3 bl3 bc3]) Y r2 r3 23 Hr3.out _ ((HY.out.of hb).mono (by decide)) HB3.out (by decide)).mono ?_); rintro e w2 ⟨v_, rfl, hbm, hn⟩; replace HB1 := Lib.hid (HB1.out.of hn); replace HB2 := Lib.hid (HB2.out.of hn); replace HB3 := Lib.hid (HB3.out.of hn); have HB4 := Lib.hid hbm; have hvm := hbm.shape; clear hbm; obtain ⟨bn4, ba4, bl4, bc4, rfl⟩ := hvm) | (go_at_call 65; (with_reducible refine (bigMul_v (.agg #[.bool bn1, .slice ba1 bl1 bc1]) (.agg #[.bool bn4, .slice ba4 bl4 bc4]) r1 r3 r4 5 24 Hr4.out _ HB1.out HB4.out (by decide)).mono ?_); rintro e w2 ⟨v_, rfl, hbm, hn⟩; replace HB1 := Lib.hid (HB1.out.of hn); replace HB2 := Lib.hid (HB2.out.of hn); replace HB3 := Lib.hid (HB3.out.of hn); replace HB4 := Lib.hid (HB4.out.of hn); have HB5 := Lib.hid hbm; have hvm := hbm.shape; clear hbm; obtain ⟨bn5, ba5, bl5, bc5, rfl⟩ := hvm)))
  refine hK.out _ _ hn ?_
  replace hb := hb.trans (hn.mono hb.size)
  clear hK K
  clear hn
  refine wpF_do rfl ?_
  intro w1 hg K hK
  replace hb := hb.trans (hg.mono hb.size)
  try replace HB1 := Lib.hid (HB1.out.of hg); try replace HB2 := Lib.hid (HB2.out.of hg); try replace HB3 := Lib.hid (HB3.out.of hg); try replace HB4 := Lib.hid (HB4.out.of hg); try replace HB5 := Lib.hid (HB5.out.of hg)
  clear hg
  go_wp2_with ((first | (go_at_call 66; (with_reducible refine (bigOf_v (wrap64 (bx - ax)) r1 Hr1.out (wrap64_in _) _).mono ?_); rintro e w2 ⟨v_, rfl, hbm, hn⟩; have HB1 := Lib.hid hbm; have hvm := hbm.shape; clear hbm; obtain ⟨bn1, ba1, bl1, bc1, rfl⟩ := hvm) | (go_at_call 66; (with_reducible refine (bigOf_v ay ay rfl _iay _).mono ?_); rintro e w2 ⟨v_, rfl, hbm, hn⟩; replace HB1 := Lib.hid (HB1.out.of hn); have HB2 := Lib.hid hbm; have hvm := hbm.shape; clear hbm; obtain ⟨bn2, ba2, bl2, bc2, rfl⟩ := hvm) | (go_at_call 65; (with_reducible refine (bigMul_v (.agg #[.bool bn2, .slice ba2 bl2 bc2]) (.agg #[.bool nZ, .slice aZ lZ cZ]) ay Z r2 5 18 Hr2.out _ HB2.out (HZ.out.of hb) (by decide)).mono ?_); rintro e w2 ⟨v_, rfl, hbm, hn⟩; replace HB1 := Lib.hid (HB1.out.of hn); replace HB2 := Lib.hid (HB2.out.of hn); have HB3 := Lib.hid hbm; have hvm := hbm.shape; clear hbm; obtain ⟨bn3, ba3, bl3, bc3, rfl⟩ := hvm) | (go_at_call 68; (with_reducible refine (bigSub_v (.agg #[.bool nY, .slice aY lY cY]) (.agg #[.bool bn3, .slice ba3 bl3 bc3]) Y r2 r3 23 Hr3.out _ ((HY.out.of hb).mono (by decide)) HB3.out (by decide)).mono ?_); rintro e w2 ⟨v_, rfl, hbm, hn⟩; replace HB1 := Lib.hid (HB1.out.of hn); replace HB2 := Lib.hid (HB2.out.of hn); replace HB3 := Lib.hid (HB3.out.of hn); have HB4 := Lib.hid hbm; have hvm := hbm.shape; clear hbm; obtain ⟨bn4, ba4, bl4, bc4, rfl⟩ := hvm) | (go_at_call 65; (with_reducible refine (bigMul_v (.agg #[.bool bn1, .slice ba1 bl1 bc1]) (.agg #[.bool bn4, .slice ba4 bl4 bc4]) r1 r3 r4 5 24 Hr4.out _ HB1.out HB4.out (by decide)).mono ?_); rintro e w2 ⟨v_, rfl, hbm, hn⟩; replace HB1 := Lib.hid (HB1.out.of hn); replace HB2 := Lib.hid (HB2.out.of hn); replace HB3 := Lib.hid (HB3.out.of hn); replace HB4 := Lib.hid (HB4.out.of hn); have HB5 := Lib.hid hbm; have hvm := hbm.shape; clear hbm; obtain ⟨bn5, ba5, bl5, bc5, rfl⟩ := hvm)))
  refine hK.out _ _ hn ?_
  replace hb := hb.trans (hn.mono hb.size)
  clear hK K
  clear hn
  refine wpF_nil ?_
  clear hb
  intro w1 hg hb b1 lb1 nb1
  replace HB1 := Lib.hid (HB1.out.of hg)
  replace HB2 := Lib.hid (HB2.out.of hg)
  replace HB3 := Lib.hid (HB3.out.of hg)
  replace HB4 := Lib.hid (HB4.out.of hg)
  replace HB5 := Lib.hid (HB5.out.of hg)
  clear hg
  simp only [Act.put, ptrTo, List.setIfInBounds_toArray, List.set_cons_succ, List.set_cons_zero]
  simp only [List.drop_succ_cons, List.drop_zero]
  clear c1_0 c1_1 l1 c2_0 l2 c3_2 c3_3 c3_4 c3_5 l3
  first | refine calls_w ?_ | refine name_world ?_ | refine list_world ?_ | refine post_world ?_
  intro U2 hU2
  subst hU2
  have D1 := Lib.hid Kk1.out.lt
  have D2 := Lib.hid Kk2.out.lt
  have D3 := Lib.hid Kk3.out.lt
  have D4 := Lib.hid hb0.size
  have k4 : Blk U2 b1 #[.bool false, .slice none 0 0] 28 := nb1
  have k1 := Kk1.out.of hb
  clear Kk1
  have k2 := Kk2.out.of hb
  clear Kk2
  have k3 := Kk3.out.of hb
  clear Kk3
  have D5 := Lib.hid lb1
  clear nb1 lb1
  replace HX := Lib.hid (HX.out.of hb)
  replace HY := Lib.hid (HY.out.of hb)
  replace HZ := Lib.hid (HZ.out.of hb)
  replace hb0 := hb0.trans (hb.mono hb0.size)
  clear hb
  generalize b1 = q4 at *
  have c4_0 : U2.cell? ⟨q4, 0, none⟩ = some (.bool false) := k4.cell 0
  have c4_1 : U2.cell? ⟨q4, 1, none⟩ = some (.slice none 0 0) := k4.cell 1
  have f4_0 := k4.free 0
  have f4_1 := k4.free 1
  have l4 := k4.lt
  go_wp2_with fail
  clear c4_0 c4_1 f4_0 f4_1 l4
  first | refine calls_w ?_ | refine name_world ?_ | refine list_world ?_ | refine post_world ?_
  intro V3 hV3
  clear HB1 HB2 HB3 HB4
  have D6 := Lib.hid k1.lt
  have D7 := Lib.hid k2.lt
  have D8 := Lib.hid k3.lt
  have D9 := Lib.hid k4.lt
  have D10 := Lib.hid hb0.size
  have nk1 : Blk V3 w.heap.size #[.int .i64 ax, .int .i64 ay] 31 := by rw [hV3]; exact (blk_setL k1 (by have := D1.out; have := D5.out; omega) 0 [.bool bn5, .slice ba5 bl5 bc5])
  have nk2 : Blk V3 (w.heap.size + 1) #[.int .i64 bx, .int .i64 b_y] 31 := by rw [hV3]; exact (blk_setL k2 (by have := D2.out; have := D5.out; omega) 0 [.bool bn5, .slice ba5 bl5 bc5])
  have nk3 : Blk V3 (w.heap.size + 1 + 1) #[.bool nX, .slice aX lX cX, .bool nY, .slice aY lY cY, .bool nZ, .slice aZ lZ cZ] 72 := by rw [hV3]; exact (blk_setL k3 (by have := D3.out; have := D5.out; omega) 0 [.bool bn5, .slice ba5 bl5 bc5])
  have nk4 : Blk V3 q4 #[.bool bn5, .slice ba5 bl5 bc5] 28 := by rw [hV3]; exact (blk_full _ [.bool bn5, .slice ba5 bl5 bc5] k4 rfl)
  have nhb0 : Below w.heap.size w V3 := by rw [hV3]; exact (blw_setL hb0 (by have := D4.out; have := D5.out; omega) 0 [.bool bn5, .slice ba5 bl5 bc5])
  replace HX : Hid (Big V3 (.agg #[.bool nX, .slice aX lX cX]) X 18) := Lib.hid (by rw [hV3]; exact (big_setL HX.out (Blk.cell k4 0) (fun _ h => by cases h) 0 [.bool bn5, .slice ba5 bl5 bc5]))
  replace HY : Hid (Big V3 (.agg #[.bool nY, .slice aY lY cY]) Y 18) := Lib.hid (by rw [hV3]; exact (big_setL HY.out (Blk.cell k4 0) (fun _ h => by cases h) 0 [.bool bn5, .slice ba5 bl5 bc5]))
  replace HZ : Hid (Big V3 (.agg #[.bool nZ, .slice aZ lZ cZ]) Z 18) := Lib.hid (by rw [hV3]; exact (big_setL HZ.out (Blk.cell k4 0) (fun _ h => by cases h) 0 [.bool bn5, .slice ba5 bl5 bc5]))
  replace HB5 : Hid (Big V3 (.agg #[.bool bn5, .slice ba5 bl5 bc5]) r4 29) := Lib.hid (by rw [hV3]; exact (big_setL HB5.out (Blk.cell k4 0) (fun _ h => by cases h) 0 [.bool bn5, .slice ba5 bl5 bc5]))
  clear k1 k2 k3 k4
  clear hb0
  clear hV3
  have k1 := nk1
  clear nk1
  have k2 := nk2
  clear nk2
  have k3 := nk3
  clear nk3
  have k4 := nk4
  clear nk4
  have hb0 := nhb0
  clear nhb0
  obtain ⟨r5, hr5⟩ : ∃ o_o : Int, (wrap64 (b_y - ay)) = o_o := ⟨_, rfl⟩
  have Hr5 := Lib.hid hr5
  clear hr5
  obtain ⟨r6, hr6⟩ : ∃ o_o : Int, ax * Z = o_o := ⟨_, rfl⟩
  have Hr6 := Lib.hid hr6
  clear hr6
  obtain ⟨r7, hr7⟩ : ∃ o_o : Int, X - r6 = o_o := ⟨_, rfl⟩
  have Hr7 := Lib.hid hr7
  clear hr7
  obtain ⟨r8, hr8⟩ : ∃ o_o : Int, r5 * r7 = o_o := ⟨_, rfl⟩
  have Hr8 := Lib.hid hr8
  clear hr8
  have c1_0 : V3.cell? ⟨w.heap.size, 0, none⟩ = some (.int .i64 ax) := k1.cell 0
  have c1_1 : V3.cell? ⟨w.heap.size, 1, none⟩ = some (.int .i64 ay) := k1.cell 1
  have l1 := k1.lt
  have c2_1 : V3.cell? ⟨(w.heap.size + 1), 1, none⟩ = some (.int .i64 b_y) := k2.cell 1
  have l2 := k2.lt
  have c3_0 : V3.cell? ⟨(w.heap.size + 1 + 1), 0, none⟩ = some (.bool nX) := k3.cell 0
  have c3_1 : V3.cell? ⟨(w.heap.size + 1 + 1), 1, none⟩ = some (.slice aX lX cX) := k3.cell 1
  have c3_4 : V3.cell? ⟨(w.heap.size + 1 + 1), 4, none⟩ = some (.bool nZ) := k3.cell 4
  have c3_5 : V3.cell? ⟨(w.heap.size + 1 + 1), 5, none⟩ = some (.slice aZ lZ cZ) := k3.cell 5
  have l3 := k3.lt
  have Kk1 := Lib.hid k1
  clear k1
  have Kk2 := Lib.hid k2
  clear k2
  have Kk3 := Lib.hid k3
  clear k3
  have Kk4 := Lib.hid k4
  clear k4
  refine wp_region_float1 17 16 [(true, 0), (true, 1), (true, 2), (true, 3), (true, 4), (true, 6), (true, 7), (true, 8), (true, 9), (true, 11), (true, 12), (false, 5), (false, 10), (false, 13), (false, 14), (false, 15)] (by kernel_rfl) (by kernel_rfl) (fun _ _ d _ _ => by cases d <;> exact Iff.rfl) rfl rfl rfl alCr9_0 ?_
  have hb : Below V3.heap.size V3 V3.drew := (Below.refl _ _).drew
  iterate 11
    refine wpF_take rfl rfl ?_
    go_big_quiet_step (rfl)
    refine wpQuiet_nil ?_
  refine wpF_do rfl ?_
  intro w1 hg K hK
  replace hb := hb.trans (hg.mono hb.size)
  try replace HB6 := Lib.hid (HB6.out.of hg); try replace HB7 := Lib.hid (HB7.out.of hg); try replace HB8 := Lib.hid (HB8.out.of hg); try replace HB9 := Lib.hid (HB9.out.of hg); try replace HB10 := Lib.hid (HB10.out.of hg)
  clear hg
  go_wp2_with ((first | (go_at_call 66; (with_reducible refine (bigOf_v (wrap64 (b_y - ay)) r5 Hr5.out (wrap64_in _) _).mono ?_); rintro e w2 ⟨v_, rfl, hbm, hn⟩; have HB6 := Lib.hid hbm; have hvm := hbm.shape; clear hbm; obtain ⟨bn6, ba6, bl6, bc6, rfl⟩ := hvm) | (go_at_call 66; (with_reducible refine (bigOf_v ax ax rfl _iax _).mono ?_); rintro e w2 ⟨v_, rfl, hbm, hn⟩; replace HB6 := Lib.hid (HB6.out.of hn); have HB7 := Lib.hid hbm; have hvm := hbm.shape; clear hbm; obtain ⟨bn7, ba7, bl7, bc7, rfl⟩ := hvm) | (go_at_call 65; (with_reducible refine (bigMul_v (.agg #[.bool bn7, .slice ba7 bl7 bc7]) (.agg #[.bool nZ, .slice aZ lZ cZ]) ax Z r6 5 18 Hr6.out _ HB7.out (HZ.out.of hb) (by decide)).mono ?_); rintro e w2 ⟨v_, rfl, hbm, hn⟩; replace HB6 := Lib.hid (HB6.out.of hn); replace HB7 := Lib.hid (HB7.out.of hn); have HB8 := Lib.hid hbm; have hvm := hbm.shape; clear hbm; obtain ⟨bn8, ba8, bl8, bc8, rfl⟩ := hvm) | (go_at_call 68; (with_reducible refine (bigSub_v (.agg #[.bool nX, .slice aX lX cX]) (.agg #[.bool bn8, .slice ba8 bl8 bc8]) X r6 r7 23 Hr7.out _ ((HX.out.of hb).mono (by decide)) HB8.out (by decide)).mono ?_); rintro e w2 ⟨v_, rfl, hbm, hn⟩; replace HB6 := Lib.hid (HB6.out.of hn); replace HB7 := Lib.hid (HB7.out.of hn); replace HB8 := Lib.hid (HB8.out.of hn); have HB9 := Lib.hid hbm; have hvm := hbm.shape; clear hbm; obtain ⟨bn9, ba9, bl9, bc9, rfl⟩ := hvm) | (go_at_call 65; (with_reducible refine (bigMul_v (.agg #[.bool bn6, .slice ba6 bl6 bc6]) (.agg #[.bool bn9, .slice ba9 bl9 bc9]) r5 r7 r8 5 24 Hr8.out _ HB6.out HB9.out (by decide)).mono ?_); rintro e w2 ⟨v_, rfl, hbm, hn⟩; replace HB6 := Lib.hid (HB6.out.of hn); replace HB7 := Lib.hid (HB7.out.of hn); replace HB8 := Lib.hid (HB8.out.of hn); replace HB9 := Lib.hid (HB9.out.of hn); have HB10 := Lib.hid hbm; have hvm := hbm.shape; clear hbm; obtain ⟨bn10, ba10, bl10, bc10, rfl⟩ := hvm)))
  refine hK.out _ _ hn ?_
  replace hb := hb.trans (hn.mono hb.size)
  clear hK K
  clear hn
  refine wpF_do rfl ?_
  intro w1 hg K hK
  replace hb := hb.trans (hg.mono hb.size)
  try replace HB6 := Lib.hid (HB6.out.of hg); try replace HB7 := Lib.hid (HB7.out.of hg); try replace HB8 := Lib.hid (HB8.out.of hg); try replace HB9 := Lib.hid (HB9.out.of hg); try replace HB10 := Lib.hid (HB10.out.of hg)
  clear hg
  go_wp2_with ((first | (go_at_call 66; (with_reducible refine (bigOf_v (wrap64 (b_y - ay)) r5 Hr5.out (wrap64_in _) _).mono ?_); rintro e w2 ⟨v_, rfl, hbm, hn⟩; have HB6 := Lib.hid hbm; have hvm := hbm.shape; clear hbm; obtain ⟨bn6, ba6, bl6, bc6, rfl⟩ := hvm) | (go_at_call 66; (with_reducible refine (bigOf_v ax ax rfl _iax _).mono ?_); rintro e w2 ⟨v_, rfl, hbm, hn⟩; replace HB6 := Lib.hid (HB6.out.of hn); have HB7 := Lib.hid hbm; have hvm := hbm.shape; clear hbm; obtain ⟨bn7, ba7, bl7, bc7, rfl⟩ := hvm) | (go_at_call 65; (with_reducible refine (bigMul_v (.agg #[.bool bn7, .slice ba7 bl7 bc7]) (.agg #[.bool nZ, .slice aZ lZ cZ]) ax Z r6 5 18 Hr6.out _ HB7.out (HZ.out.of hb) (by decide)).mono ?_); rintro e w2 ⟨v_, rfl, hbm, hn⟩; replace HB6 := Lib.hid (HB6.out.of hn); replace HB7 := Lib.hid (HB7.out.of hn); have HB8 := Lib.hid hbm; have hvm := hbm.shape; clear hbm; obtain ⟨bn8, ba8, bl8, bc8, rfl⟩ := hvm) | (go_at_call 68; (with_reducible refine (bigSub_v (.agg #[.bool nX, .slice aX lX cX]) (.agg #[.bool bn8, .slice ba8 bl8 bc8]) X r6 r7 23 Hr7.out _ ((HX.out.of hb).mono (by decide)) HB8.out (by decide)).mono ?_); rintro e w2 ⟨v_, rfl, hbm, hn⟩; replace HB6 := Lib.hid (HB6.out.of hn); replace HB7 := Lib.hid (HB7.out.of hn); replace HB8 := Lib.hid (HB8.out.of hn); have HB9 := Lib.hid hbm; have hvm := hbm.shape; clear hbm; obtain ⟨bn9, ba9, bl9, bc9, rfl⟩ := hvm) | (go_at_call 65; (with_reducible refine (bigMul_v (.agg #[.bool bn6, .slice ba6 bl6 bc6]) (.agg #[.bool bn9, .slice ba9 bl9 bc9]) r5 r7 r8 5 24 Hr8.out _ HB6.out HB9.out (by decide)).mono ?_); rintro e w2 ⟨v_, rfl, hbm, hn⟩; replace HB6 := Lib.hid (HB6.out.of hn); replace HB7 := Lib.hid (HB7.out.of hn); replace HB8 := Lib.hid (HB8.out.of hn); replace HB9 := Lib.hid (HB9.out.of hn); have HB10 := Lib.hid hbm; have hvm := hbm.shape; clear hbm; obtain ⟨bn10, ba10, bl10, bc10, rfl⟩ := hvm)))
  refine hK.out _ _ hn ?_
  replace hb := hb.trans (hn.mono hb.size)
  clear hK K
  clear hn
  refine wpF_do rfl ?_
  intro w1 hg K hK
  replace hb := hb.trans (hg.mono hb.size)
  try replace HB6 := Lib.hid (HB6.out.of hg); try replace HB7 := Lib.hid (HB7.out.of hg); try replace HB8 := Lib.hid (HB8.out.of hg); try replace HB9 := Lib.hid (HB9.out.of hg); try replace HB10 := Lib.hid (HB10.out.of hg)
  clear hg
  go_wp2_with ((first | (go_at_call 66; (with_reducible refine (bigOf_v (wrap64 (b_y - ay)) r5 Hr5.out (wrap64_in _) _).mono ?_); rintro e w2 ⟨v_, rfl, hbm, hn⟩; have HB6 := Lib.hid hbm; have hvm := hbm.shape; clear hbm; obtain ⟨bn6, ba6, bl6, bc6, rfl⟩ := hvm) | (go_at_call 66; (with_reducible refine (bigOf_v ax ax rfl _iax _).mono ?_); rintro e w2 ⟨v_, rfl, hbm, hn⟩; replace HB6 := Lib.hid (HB6.out.of hn); have HB7 := Lib.hid hbm; have hvm := hbm.shape; clear hbm; obtain ⟨bn7, ba7, bl7, bc7, rfl⟩ := hvm) | (go_at_call 65; (with_reducible refine (bigMul_v (.agg #[.bool bn7, .slice ba7 bl7 bc7]) (.agg #[.bool nZ, .slice aZ lZ cZ]) ax Z r6 5 18 Hr6.out _ HB7.out (HZ.out.of hb) (by decide)).mono ?_); rintro e w2 ⟨v_, rfl, hbm, hn⟩; replace HB6 := Lib.hid (HB6.out.of hn); replace HB7 := Lib.hid (HB7.out.of hn); have HB8 := Lib.hid hbm; have hvm := hbm.shape; clear hbm; obtain ⟨bn8, ba8, bl8, bc8, rfl⟩ := hvm) | (go_at_call 68; (with_reducible refine (bigSub_v (.agg #[.bool nX, .slice aX lX cX]) (.agg #[.bool bn8, .slice ba8 bl8 bc8]) X r6 r7 23 Hr7.out _ ((HX.out.of hb).mono (by decide)) HB8.out (by decide)).mono ?_); rintro e w2 ⟨v_, rfl, hbm, hn⟩; replace HB6 := Lib.hid (HB6.out.of hn); replace HB7 := Lib.hid (HB7.out.of hn); replace HB8 := Lib.hid (HB8.out.of hn); have HB9 := Lib.hid hbm; have hvm := hbm.shape; clear hbm; obtain ⟨bn9, ba9, bl9, bc9, rfl⟩ := hvm) | (go_at_call 65; (with_reducible refine (bigMul_v (.agg #[.bool bn6, .slice ba6 bl6 bc6]) (.agg #[.bool bn9, .slice ba9 bl9 bc9]) r5 r7 r8 5 24 Hr8.out _ HB6.out HB9.out (by decide)).mono ?_); rintro e w2 ⟨v_, rfl, hbm, hn⟩; replace HB6 := Lib.hid (HB6.out.of hn); replace HB7 := Lib.hid (HB7.out.of hn); replace HB8 := Lib.hid (HB8.out.of hn); replace HB9 := Lib.hid (HB9.out.of hn); have HB10 := Lib.hid hbm; have hvm := hbm.shape; clear hbm; obtain ⟨bn10, ba10, bl10, bc10, rfl⟩ := hvm)))
  refine hK.out _ _ hn ?_
  replace hb := hb.trans (hn.mono hb.size)
  clear hK K
  clear hn
  refine wpF_do rfl ?_
  intro w1 hg K hK
  replace hb := hb.trans (hg.mono hb.size)
  try replace HB6 := Lib.hid (HB6.out.of hg); try replace HB7 := Lib.hid (HB7.out.of hg); try replace HB8 := Lib.hid (HB8.out.of hg); try replace HB9 := Lib.hid (HB9.out.of hg); try replace HB10 := Lib.hid (HB10.out.of hg)
  clear hg
  go_wp2_with ((first | (go_at_call 66; (with_reducible refine (bigOf_v (wrap64 (b_y - ay)) r5 Hr5.out (wrap64_in _) _).mono ?_); rintro e w2 ⟨v_, rfl, hbm, hn⟩; have HB6 := Lib.hid hbm; have hvm := hbm.shape; clear hbm; obtain ⟨bn6, ba6, bl6, bc6, rfl⟩ := hvm) | (go_at_call 66; (with_reducible refine (bigOf_v ax ax rfl _iax _).mono ?_); rintro e w2 ⟨v_, rfl, hbm, hn⟩; replace HB6 := Lib.hid (HB6.out.of hn); have HB7 := Lib.hid hbm; have hvm := hbm.shape; clear hbm; obtain ⟨bn7, ba7, bl7, bc7, rfl⟩ := hvm) | (go_at_call 65; (with_reducible refine (bigMul_v (.agg #[.bool bn7, .slice ba7 bl7 bc7]) (.agg #[.bool nZ, .slice aZ lZ cZ]) ax Z r6 5 18 Hr6.out _ HB7.out (HZ.out.of hb) (by decide)).mono ?_); rintro e w2 ⟨v_, rfl, hbm, hn⟩; replace HB6 := Lib.hid (HB6.out.of hn); replace HB7 := Lib.hid (HB7.out.of hn); have HB8 := Lib.hid hbm; have hvm := hbm.shape; clear hbm; obtain ⟨bn8, ba8, bl8, bc8, rfl⟩ := hvm) | (go_at_call 68; (with_reducible refine (bigSub_v (.agg #[.bool nX, .slice aX lX cX]) (.agg #[.bool bn8, .slice ba8 bl8 bc8]) X r6 r7 23 Hr7.out _ ((HX.out.of hb).mono (by decide)) HB8.out (by decide)).mono ?_); rintro e w2 ⟨v_, rfl, hbm, hn⟩; replace HB6 := Lib.hid (HB6.out.of hn); replace HB7 := Lib.hid (HB7.out.of hn); replace HB8 := Lib.hid (HB8.out.of hn); have HB9 := Lib.hid hbm; have hvm := hbm.shape; clear hbm; obtain ⟨bn9, ba9, bl9, bc9, rfl⟩ := hvm) | (go_at_call 65; (with_reducible refine (bigMul_v (.agg #[.bool bn6, .slice ba6 bl6 bc6]) (.agg #[.bool bn9, .slice ba9 bl9 bc9]) r5 r7 r8 5 24 Hr8.out _ HB6.out HB9.out (by decide)).mono ?_); rintro e w2 ⟨v_, rfl, hbm, hn⟩; replace HB6 := Lib.hid (HB6.out.of hn); replace HB7 := Lib.hid (HB7.out.of hn); replace HB8 := Lib.hid (HB8.out.of hn); replace HB9 := Lib.hid (HB9.out.of hn); have HB10 := Lib.hid hbm; have hvm := hbm.shape; clear hbm; obtain ⟨bn10, ba10, bl10, bc10, rfl⟩ := hvm)))
  refine hK.out _ _ hn ?_
  replace hb := hb.trans (hn.mono hb.size)
  clear hK K
  clear hn
  refine wpF_do rfl ?_
  intro w1 hg K hK
  replace hb := hb.trans (hg.mono hb.size)
  try replace HB6 := Lib.hid (HB6.out.of hg); try replace HB7 := Lib.hid (HB7.out.of hg); try replace HB8 := Lib.hid (HB8.out.of hg); try replace HB9 := Lib.hid (HB9.out.of hg); try replace HB10 := Lib.hid (HB10.out.of hg)
  clear hg
  go_wp2_with ((first | (go_at_call 66; (with_reducible refine (bigOf_v (wrap64 (b_y - ay)) r5 Hr5.out (wrap64_in _) _).mono ?_); rintro e w2 ⟨v_, rfl, hbm, hn⟩; have HB6 := Lib.hid hbm; have hvm := hbm.shape; clear hbm; obtain ⟨bn6, ba6, bl6, bc6, rfl⟩ := hvm) | (go_at_call 66; (with_reducible refine (bigOf_v ax ax rfl _iax _).mono ?_); rintro e w2 ⟨v_, rfl, hbm, hn⟩; replace HB6 := Lib.hid (HB6.out.of hn); have HB7 := Lib.hid hbm; have hvm := hbm.shape; clear hbm; obtain ⟨bn7, ba7, bl7, bc7, rfl⟩ := hvm) | (go_at_call 65; (with_reducible refine (bigMul_v (.agg #[.bool bn7, .slice ba7 bl7 bc7]) (.agg #[.bool nZ, .slice aZ lZ cZ]) ax Z r6 5 18 Hr6.out _ HB7.out (HZ.out.of hb) (by decide)).mono ?_); rintro e w2 ⟨v_, rfl, hbm, hn⟩; replace HB6 := Lib.hid (HB6.out.of hn); replace HB7 := Lib.hid (HB7.out.of hn); have HB8 := Lib.hid hbm; have hvm := hbm.shape; clear hbm; obtain ⟨bn8, ba8, bl8, bc8, rfl⟩ := hvm) | (go_at_call 68; (with_reducible refine (bigSub_v (.agg #[.bool nX, .slice aX lX cX]) (.agg #[.bool bn8, .slice ba8 bl8 bc8]) X r6 r7 23 Hr7.out _ ((HX.out.of hb).mono (by decide)) HB8.out (by decide)).mono ?_); rintro e w2 ⟨v_, rfl, hbm, hn⟩; replace HB6 := Lib.hid (HB6.out.of hn); replace HB7 := Lib.hid (HB7.out.of hn); replace HB8 := Lib.hid (HB8.out.of hn); have HB9 := Lib.hid hbm; have hvm := hbm.shape; clear hbm; obtain ⟨bn9, ba9, bl9, bc9, rfl⟩ := hvm) | (go_at_call 65; (with_reducible refine (bigMul_v (.agg #[.bool bn6, .slice ba6 bl6 bc6]) (.agg #[.bool bn9, .slice ba9 bl9 bc9]) r5 r7 r8 5 24 Hr8.out _ HB6.out HB9.out (by decide)).mono ?_); rintro e w2 ⟨v_, rfl, hbm, hn⟩; replace HB6 := Lib.hid (HB6.out.of hn); replace HB7 := Lib.hid (HB7.out.of hn); replace HB8 := Lib.hid (HB8.out.of hn); replace HB9 := Lib.hid (HB9.out.of hn); have HB10 := Lib.hid hbm; have hvm := hbm.shape; clear hbm; obtain ⟨bn10, ba10, bl10, bc10, rfl⟩ := hvm)))
  refine hK.out _ _ hn ?_
  replace hb := hb.trans (hn.mono hb.size)
  clear hK K
  clear hn
  refine wpF_nil ?_
  clear hb
  intro w1 hg hb b1 lb1 nb1
  replace HB6 := Lib.hid (HB6.out.of hg)
  replace HB7 := Lib.hid (HB7.out.of hg)
  replace HB8 := Lib.hid (HB8.out.of hg)
  replace HB9 := Lib.hid (HB9.out.of hg)
  replace HB10 := Lib.hid (HB10.out.of hg)
  clear hg
  simp only [Act.put, ptrTo, List.setIfInBounds_toArray, List.set_cons_succ, List.set_cons_zero]
  simp only [List.drop_succ_cons, List.drop_zero]
  clear c1_0 c1_1 l1 c2_1 l2 c3_0 c3_1 c3_4 c3_5 l3
  first | refine calls_w ?_ | refine name_world ?_ | refine list_world ?_ | refine post_world ?_
  intro U4 hU4
  subst hU4
  have D11 := Lib.hid Kk1.out.lt
  have D12 := Lib.hid Kk2.out.lt
  have D13 := Lib.hid Kk3.out.lt
  have D14 := Lib.hid Kk4.out.lt
  have D15 := Lib.hid hb0.size
  have k5 : Blk U4 b1 #[.bool false, .slice none 0 0] 28 := nb1
  have k1 := Kk1.out.of hb
  clear Kk1
  have k2 := Kk2.out.of hb
  clear Kk2
  have k3 := Kk3.out.of hb
  clear Kk3
  have k4 := Kk4.out.of hb
  clear Kk4
  have D16 := Lib.hid lb1
  clear nb1 lb1
  replace HX := Lib.hid (HX.out.of hb)
  replace HY := Lib.hid (HY.out.of hb)
  replace HZ := Lib.hid (HZ.out.of hb)
  replace HB5 := Lib.hid (HB5.out.of hb)
  replace hb0 := hb0.trans (hb.mono hb0.size)
  clear hb
  generalize b1 = q5 at *
  have c4_0 : U4.cell? ⟨q4, 0, none⟩ = some (.bool bn5) := k4.cell 0
  have c4_1 : U4.cell? ⟨q4, 1, none⟩ = some (.slice ba5 bl5 bc5) := k4.cell 1
  have l4 := k4.lt
  have c5_0 : U4.cell? ⟨q5, 0, none⟩ = some (.bool false) := k5.cell 0
  have c5_1 : U4.cell? ⟨q5, 1, none⟩ = some (.slice none 0 0) := k5.cell 1
  have f5_0 := k5.free 0
  have f5_1 := k5.free 1
  have l5 := k5.lt
  have p4_5 : q4 ≠ q5 := (by have := D14.out; have := D16.out; omega)
  go_wp2_with fail
  clear c4_0 c4_1 l4 c5_0 c5_1 f5_0 f5_1 l5 p4_5
  first | refine calls_w ?_ | refine name_world ?_ | refine list_world ?_ | refine post_world ?_
  intro V5 hV5
  clear HX HY HZ HB6 HB7 HB8 HB9
  clear k1 k2 k3 k4
  have D17 := Lib.hid k5.lt
  have D18 := Lib.hid hb0.size
  have nk5 : Blk V5 q5 #[.bool bn10, .slice ba10 bl10 bc10] 28 := by rw [hV5]; exact (blk_full _ [.bool bn10, .slice ba10 bl10 bc10] k5 rfl)
  have nhb0 : Below w.heap.size w V5 := by rw [hV5]; exact (blw_setL hb0 (by have := D15.out; have := D16.out; omega) 0 [.bool bn10, .slice ba10 bl10 bc10])
  replace HB5 : Hid (Big V5 (.agg #[.bool bn5, .slice ba5 bl5 bc5]) r4 29) := Lib.hid (by rw [hV5]; exact (big_setL HB5.out (Blk.cell k5 0) (fun _ h => by cases h) 0 [.bool bn10, .slice ba10 bl10 bc10]))
  replace HB10 : Hid (Big V5 (.agg #[.bool bn10, .slice ba10 bl10 bc10]) r8 29) := Lib.hid (by rw [hV5]; exact (big_setL HB10.out (Blk.cell k5 0) (fun _ h => by cases h) 0 [.bool bn10, .slice ba10 bl10 bc10]))
  clear k5
  clear hb0
  clear hV5
  have k5 := nk5
  clear nk5
  have hb0 := nhb0
  clear nhb0
  obtain ⟨r9, hr9⟩ : ∃ o_o : Int, r4 - r8 = o_o := ⟨_, rfl⟩
  have Hr9 := Lib.hid hr9
  clear hr9
  refine (bigSub_v (.agg #[.bool bn5, .slice ba5 bl5 bc5]) (.agg #[.bool bn10, .slice ba10 bl10 bc10]) r4 r8 r9 29 Hr9.out _ HB5.out HB10.out (by decide)).mono ?_
  rintro e U6 ⟨v_, rfl, hbm, hn⟩
  clear HB5 HB10
  clear k5
  replace hb0 := hb0.trans (hn.mono hb0.size)
  clear hn
  have HB11 := Lib.hid hbm
  have hvm := hbm.shape
  clear hbm
  obtain ⟨bn11, ba11, bl11, bc11, rfl⟩ := hvm
  go_wp2_with fail
  obtain ⟨r10, hr10⟩ : ∃ o_o : Int, r9.sign = o_o := ⟨_, rfl⟩
  have Hr10 := Lib.hid hr10
  clear hr10
  refine (bigSign_v (.agg #[.bool bn11, .slice ba11 bl11 bc11]) r9 30 r10 Hr10.out _ HB11.out).mono ?_
  rintro e U7 ⟨rfl, hn⟩
  clear HB11
  replace hb0 := hb0.trans (hn.mono hb0.size)
  clear hn
  have e0 : r10 = R0 := by rw [← HR0.out]; unfold rsde; (try rw [Hr1.out]); (try rw [Hr2.out]); (try rw [Hr3.out]); (try rw [Hr4.out]); (try rw [Hr5.out]); (try rw [Hr6.out]); (try rw [Hr7.out]); (try rw [Hr8.out]); (try rw [Hr9.out]); (try rw [Hr10.out]); all_goals first | rfl | simp
  subst e0
  go_wp2
  first | go_ret | go_ret2
  exact ⟨by first | rfl | simp, hb0⟩
end Go.Proofs.Ytlcbomjdbdgbmaa
