/- The walks of gromaref04.Holds and of gromalaw04: ref, spot, right. Conditions: the numbers are ints and numbers of 256 bits. -/
import Derived.Test.YtlcbomjdbdgbmaaCr7
namespace Go.Proofs.Ytlcbomjdbdgbmaa
open Go.RowKit

def rhld (ax : Int) (ay : Int) (bx : Int) (b_y : Int) (X : Int) (Y : Int) (Z : Int) : Bool := (bif ((rsde ax ay bx b_y X Y Z) == 0) then (bif (ahd bx b_y ax ay) then (bif decide ((rspC (rAtx bx b_y) (rAty bx b_y) (rAtw bx b_y) X Y Z) ≤ 0) then decide ((rspC X Y Z (rAtx ax ay) (rAty ax ay) (rAtw ax ay)) ≤ 0) else false) else (bif decide ((rspC (rAtx ax ay) (rAty ax ay) (rAtw ax ay) X Y Z) ≤ 0) then decide ((rspC X Y Z (rAtx bx b_y) (rAty bx b_y) (rAtw bx b_y)) ≤ 0) else false)) else false)

set_option maxRecDepth 100000 in
set_option maxHeartbeats 4000000 in

theorem rHolds_is (ax : Int) (ay : Int) (bx : Int) (b_y : Int) (X : Int) (Y : Int) (Z : Int)  (R0 : Bool) (hR0 : rhld ax ay bx b_y X Y Z = R0) (_iax : In64 ax) (_iay : In64 ay) (_ibx : In64 bx) (_ib_y : In64 b_y) (nX : Bool) (aX : Option Addr) (lX cX : Nat) (nY : Bool) (aY : Option Addr) (lY cY : Nat) (nZ : Bool) (aZ : Option Addr) (lZ cZ : Nat) (w : World) (hX : Big w (.agg #[.bool nX, .slice aX lX cX]) X 18) (hY : Big w (.agg #[.bool nY, .slice aY lY cY]) Y 18) (hZ : Big w (.agg #[.bool nZ, .slice aZ lZ cZ]) Z 18) :
    Calls Try.prog 57 #[.agg #[.int .i64 ax, .int .i64 ay], .agg #[.int .i64 bx, .int .i64 b_y], .agg #[.bool nX, .slice aX lX cX, .bool nY, .slice aY lY cY, .bool nZ, .slice aZ lZ cZ]] w fun e w' => e = .returned (.bool R0) ∧ Below w.heap.size w w' := by

  have HX := Lib.hid hX
  clear hX
  have HY := Lib.hid hY
  clear hY
  have HZ := Lib.hid hZ
  clear hZ
  have HR0 := Lib.hid hR0
  clear hR0
  go_enter Try.func57, Try.ntmps57
  go_wp2_with fail
  first | refine calls_w ?_ | refine name_world ?_ | refine list_world ?_ | refine post_world ?_
  intro V1 hV1
  have hn : Below w.heap.size w V1 := by rw [hV1]; exact below_a3 _ _ _ _
  replace HX := Lib.hid (HX.out.of hn)
  replace HY := Lib.hid (HY.out.of hn)
  replace HZ := Lib.hid (HZ.out.of hn)
  have nhb0 := hn
  have k1 : Blk V1 w.heap.size #[.int .i64 ax, .int .i64 ay] 31 := by rw [hV1]; exact (((Blk.new _ _ _).alloc _).alloc _)
  have k2 : Blk V1 (w.heap.size + 1) #[.int .i64 bx, .int .i64 b_y] 31 := by rw [hV1]; exact ((Blk.new1 _ _ _ _).alloc _)
  have k3 : Blk V1 (w.heap.size + 1 + 1) #[.bool nX, .slice aX lX cX, .bool nY, .slice aY lY cY, .bool nZ, .slice aZ lZ cZ] 72 := by rw [hV1]; exact (Blk.new2 _ _ _ _ _)
  clear hV1
  have hb0 := nhb0
  clear nhb0
  obtain ⟨r1, hr1⟩ : ∃ o_o : Int, rsde ax ay bx b_y X Y Z = o_o := ⟨_, rfl⟩
  have Hr1 := Lib.hid hr1
  clear hr1
  refine (rSide_is ax ay bx b_y X Y Z r1 Hr1.out _iax _iay _ibx _ib_y nX aX lX cX nY aY lY cY nZ aZ lZ cZ _ HX.out HY.out HZ.out).mono ?_
  rintro e U2 ⟨rfl, hn⟩
  replace k1 := k1.of hn
  replace k2 := k2.of hn
  replace k3 := k3.of hn
  replace HX := Lib.hid (HX.out.of hn)
  replace HY := Lib.hid (HY.out.of hn)
  replace HZ := Lib.hid (HZ.out.of hn)
  replace hb0 := hb0.trans (hn.mono hb0.size)
  clear hn
  obtain ⟨z2, hz2⟩ : ∃ o_o : Bool, (r1 == 0) = o_o := ⟨_, rfl⟩
  cases z2
  · have nz2 : ¬ r1 = 0 := by simpa using hz2
    have e0 : false = R0 := by rw [← HR0.out]; unfold rhld; (try rw [Hr1.out]); (try rw [hz2]); all_goals first | rfl | simp
    subst e0
    go_wp2
    first | go_ret | go_ret2
    exact ⟨by first | rfl | simp, hb0⟩
  · obtain rfl : r1 = 0 := by simpa using hz2
    clear hz2
    have c1_0 : U2.cell? ⟨w.heap.size, 0, none⟩ = some (.int .i64 ax) := k1.cell 0
    have c1_1 : U2.cell? ⟨w.heap.size, 1, none⟩ = some (.int .i64 ay) := k1.cell 1
    have l1 := k1.lt
    have c2_0 : U2.cell? ⟨(w.heap.size + 1), 0, none⟩ = some (.int .i64 bx) := k2.cell 0
    have c2_1 : U2.cell? ⟨(w.heap.size + 1), 1, none⟩ = some (.int .i64 b_y) := k2.cell 1
    have l2 := k2.lt
    go_wp2_with fail
    clear c1_0 c1_1 l1 c2_0 c2_1 l2
    obtain ⟨z3, hz3⟩ : ∃ o_o : Bool, ahd bx b_y ax ay = o_o := ⟨_, rfl⟩
    have Hz3 := Lib.hid hz3
    clear hz3
    refine (rAhead_v bx b_y ax ay z3 Hz3.out _).mono ?_
    rintro e U3 ⟨rfl, hn⟩
    replace k1 := k1.of hn
    replace k2 := k2.of hn
    replace k3 := k3.of hn
    replace HX := Lib.hid (HX.out.of hn)
    replace HY := Lib.hid (HY.out.of hn)
    replace HZ := Lib.hid (HZ.out.of hn)
    replace hb0 := hb0.trans (hn.mono hb0.size)
    clear hn
    cases z3
    · go_wp2_with fail
      obtain ⟨r4, hr4⟩ : ∃ o_o : Int, rAtx ax ay = o_o := ⟨_, rfl⟩
      have Hr4 := Lib.hid hr4
      clear hr4
      obtain ⟨r5, hr5⟩ : ∃ o_o : Int, rAty ax ay = o_o := ⟨_, rfl⟩
      have Hr5 := Lib.hid hr5
      clear hr5
      obtain ⟨r6, hr6⟩ : ∃ o_o : Int, rAtw ax ay = o_o := ⟨_, rfl⟩
      have Hr6 := Lib.hid hr6
      clear hr6
      obtain ⟨r7, hr7⟩ : ∃ o_o : Int, rspC r4 r5 r6 X Y Z = o_o := ⟨_, rfl⟩
      have Hr7 := Lib.hid hr7
      clear hr7
      obtain ⟨z8, hz8⟩ : ∃ o_o : Bool, decide (r7 ≤ 0) = o_o := ⟨_, rfl⟩
      cases z8
      · have c1_0 : U3.cell? ⟨w.heap.size, 0, none⟩ = some (.int .i64 ax) := k1.cell 0
        have c1_1 : U3.cell? ⟨w.heap.size, 1, none⟩ = some (.int .i64 ay) := k1.cell 1
        have l1 := k1.lt
        have c3_0 : U3.cell? ⟨(w.heap.size + 1 + 1), 0, none⟩ = some (.bool nX) := k3.cell 0
        have c3_1 : U3.cell? ⟨(w.heap.size + 1 + 1), 1, none⟩ = some (.slice aX lX cX) := k3.cell 1
        have c3_2 : U3.cell? ⟨(w.heap.size + 1 + 1), 2, none⟩ = some (.bool nY) := k3.cell 2
        have c3_3 : U3.cell? ⟨(w.heap.size + 1 + 1), 3, none⟩ = some (.slice aY lY cY) := k3.cell 3
        have c3_4 : U3.cell? ⟨(w.heap.size + 1 + 1), 4, none⟩ = some (.bool nZ) := k3.cell 4
        have c3_5 : U3.cell? ⟨(w.heap.size + 1 + 1), 5, none⟩ = some (.slice aZ lZ cZ) := k3.cell 5
        have l3 := k3.lt
        have Kk1 := Lib.hid k1
        clear k1
        have Kk2 := Lib.hid k2
        clear k2
        have Kk3 := Lib.hid k3
        clear k3
        refine wp_region_up U3.heap.size 9 [(true, 0), (true, 2), (false, 1), (false, 3), (true, 4), (true, 5), (true, 6), (true, 7), (false, 8)] (by kernel_rfl) (by kernel_rfl) (fun _ _ d _ _ h => by cases d <;> exact h) ?_
        have hb : Below U3.heap.size U3 U3.drew := (Below.refl _ _).drew
        iterate 2
          refine wpS_takeL rfl rfl ?_
          go_big_quiet_step (rfl)
          refine wpQuiet_nil ?_
        refine wpS_doL rfl ?_
        intro K hK
        go_wp2_with ((first | (go_at_call 61; (with_reducible refine (rAt_is ax ay r4 r5 r6 Hr4.out Hr5.out Hr6.out _iax _iay  _).mono ?_); rintro e w2 ⟨bn4, ba4, bl4, bc4, bn5, ba5, bl5, bc5, bn6, ba6, bl6, bc6, rfl, hbm4, hbm5, hbm6, hn⟩; have HB4 := Lib.hid hbm4; have HB5 := Lib.hid hbm5; have HB6 := Lib.hid hbm6; clear hbm4 hbm5 hbm6) | (go_at_call 56; (with_reducible refine (rSpC_is r4 r5 r6 X Y Z r7 Hr7.out  bn4 ba4 bl4 bc4 bn5 ba5 bl5 bc5 bn6 ba6 bl6 bc6 nX aX lX cX nY aY lY cY nZ aZ lZ cZ _ (HB4.out.mono (by decide)) (HB5.out.mono (by decide)) (HB6.out.mono (by decide)) (HX.out.of hb) (HY.out.of hb) (HZ.out.of hb)).mono ?_); rintro e w2 ⟨rfl, hn⟩; replace HB4 := Lib.hid (HB4.out.of hn); replace HB5 := Lib.hid (HB5.out.of hn); replace HB6 := Lib.hid (HB6.out.of hn))))
        replace hb := hb.trans (hn.mono hb.size)
        refine hK.out _ _ (up_iff.2 hb) ?_
        clear hK K
        clear hn
        refine wpS_doL rfl ?_
        intro K hK
        go_wp2_with ((first | (go_at_call 61; (with_reducible refine (rAt_is ax ay r4 r5 r6 Hr4.out Hr5.out Hr6.out _iax _iay  _).mono ?_); rintro e w2 ⟨bn4, ba4, bl4, bc4, bn5, ba5, bl5, bc5, bn6, ba6, bl6, bc6, rfl, hbm4, hbm5, hbm6, hn⟩; have HB4 := Lib.hid hbm4; have HB5 := Lib.hid hbm5; have HB6 := Lib.hid hbm6; clear hbm4 hbm5 hbm6) | (go_at_call 56; (with_reducible refine (rSpC_is r4 r5 r6 X Y Z r7 Hr7.out  bn4 ba4 bl4 bc4 bn5 ba5 bl5 bc5 bn6 ba6 bl6 bc6 nX aX lX cX nY aY lY cY nZ aZ lZ cZ _ (HB4.out.mono (by decide)) (HB5.out.mono (by decide)) (HB6.out.mono (by decide)) (HX.out.of hb) (HY.out.of hb) (HZ.out.of hb)).mono ?_); rintro e w2 ⟨rfl, hn⟩; replace HB4 := Lib.hid (HB4.out.of hn); replace HB5 := Lib.hid (HB5.out.of hn); replace HB6 := Lib.hid (HB6.out.of hn))))
        replace hb := hb.trans (hn.mono hb.size)
        refine hK.out _ _ (up_iff.2 hb) ?_
        clear hK K
        clear hn
        iterate 4
          refine wpS_takeL rfl rfl ?_
          go_big_quiet_step (rfl)
          refine wpQuiet_nil ?_
        refine wpS_doL rfl ?_
        intro K hK
        go_wp2_with ((first | (go_at_call 61; (with_reducible refine (rAt_is ax ay r4 r5 r6 Hr4.out Hr5.out Hr6.out _iax _iay  _).mono ?_); rintro e w2 ⟨bn4, ba4, bl4, bc4, bn5, ba5, bl5, bc5, bn6, ba6, bl6, bc6, rfl, hbm4, hbm5, hbm6, hn⟩; have HB4 := Lib.hid hbm4; have HB5 := Lib.hid hbm5; have HB6 := Lib.hid hbm6; clear hbm4 hbm5 hbm6) | (go_at_call 56; (with_reducible refine (rSpC_is r4 r5 r6 X Y Z r7 Hr7.out  bn4 ba4 bl4 bc4 bn5 ba5 bl5 bc5 bn6 ba6 bl6 bc6 nX aX lX cX nY aY lY cY nZ aZ lZ cZ _ (HB4.out.mono (by decide)) (HB5.out.mono (by decide)) (HB6.out.mono (by decide)) (HX.out.of hb) (HY.out.of hb) (HZ.out.of hb)).mono ?_); rintro e w2 ⟨rfl, hn⟩; replace HB4 := Lib.hid (HB4.out.of hn); replace HB5 := Lib.hid (HB5.out.of hn); replace HB6 := Lib.hid (HB6.out.of hn))))
        try replace hb := hb.trans (hn.mono hb.size)
        refine hK.out _ _ (up_iff.2 hb) ?_
        clear hK K
        try clear hn
        refine wpS_nil ?_
        simp only [List.drop_succ_cons, List.drop_zero]
        first | refine calls_w ?_ | refine name_world ?_ | refine list_world ?_ | refine post_world ?_
        intro U4 hU4
        first | subst hU4 | (rw [← hU4] at hb; clear hU4)
        clear c1_0 c1_1 l1 c3_0 c3_1 c3_2 c3_3 c3_4 c3_5 l3
        have k1 := Kk1.out.of hb
        clear Kk1
        have k2 := Kk2.out.of hb
        clear Kk2
        have k3 := Kk3.out.of hb
        clear Kk3
        replace HX := Lib.hid (HX.out.of hb)
        replace HY := Lib.hid (HY.out.of hb)
        replace HZ := Lib.hid (HZ.out.of hb)
        replace hb0 := hb0.trans (hb.mono hb0.size)
        clear hb
        have e0 : false = R0 := by rw [← HR0.out]; unfold rhld; (try rw [Hr1.out]); (try rw [Hz3.out]); (try rw [Hr4.out]); (try rw [Hr5.out]); (try rw [Hr6.out]); (try rw [Hr7.out]); (try rw [hz8]); all_goals first | rfl | simp
        subst e0
        go_wp2
        first | go_ret | go_ret2
        exact ⟨by first | rfl | simp, hb0⟩
      · obtain ⟨r9, hr9⟩ : ∃ o_o : Int, rAtx bx b_y = o_o := ⟨_, rfl⟩
        have Hr9 := Lib.hid hr9
        clear hr9
        obtain ⟨r10, hr10⟩ : ∃ o_o : Int, rAty bx b_y = o_o := ⟨_, rfl⟩
        have Hr10 := Lib.hid hr10
        clear hr10
        obtain ⟨r11, hr11⟩ : ∃ o_o : Int, rAtw bx b_y = o_o := ⟨_, rfl⟩
        have Hr11 := Lib.hid hr11
        clear hr11
        have c1_0 : U3.cell? ⟨w.heap.size, 0, none⟩ = some (.int .i64 ax) := k1.cell 0
        have c1_1 : U3.cell? ⟨w.heap.size, 1, none⟩ = some (.int .i64 ay) := k1.cell 1
        have l1 := k1.lt
        have c2_0 : U3.cell? ⟨(w.heap.size + 1), 0, none⟩ = some (.int .i64 bx) := k2.cell 0
        have c2_1 : U3.cell? ⟨(w.heap.size + 1), 1, none⟩ = some (.int .i64 b_y) := k2.cell 1
        have l2 := k2.lt
        have c3_0 : U3.cell? ⟨(w.heap.size + 1 + 1), 0, none⟩ = some (.bool nX) := k3.cell 0
        have c3_1 : U3.cell? ⟨(w.heap.size + 1 + 1), 1, none⟩ = some (.slice aX lX cX) := k3.cell 1
        have c3_2 : U3.cell? ⟨(w.heap.size + 1 + 1), 2, none⟩ = some (.bool nY) := k3.cell 2
        have c3_3 : U3.cell? ⟨(w.heap.size + 1 + 1), 3, none⟩ = some (.slice aY lY cY) := k3.cell 3
        have c3_4 : U3.cell? ⟨(w.heap.size + 1 + 1), 4, none⟩ = some (.bool nZ) := k3.cell 4
        have c3_5 : U3.cell? ⟨(w.heap.size + 1 + 1), 5, none⟩ = some (.slice aZ lZ cZ) := k3.cell 5
        have l3 := k3.lt
        have Kk1 := Lib.hid k1
        clear k1
        have Kk2 := Lib.hid k2
        clear k2
        have Kk3 := Lib.hid k3
        clear k3
        refine wp_region_up U3.heap.size 9 [(true, 0), (true, 2), (false, 1), (false, 3), (true, 4), (true, 5), (true, 6), (true, 7), (false, 8)] (by kernel_rfl) (by kernel_rfl) (fun _ _ d _ _ h => by cases d <;> exact h) ?_
        have hb : Below U3.heap.size U3 U3.drew := (Below.refl _ _).drew
        iterate 2
          refine wpS_takeL rfl rfl ?_
          go_big_quiet_step (rfl)
          refine wpQuiet_nil ?_
        refine wpS_doL rfl ?_
        intro K hK
        go_wp2_with ((first | (go_at_call 61; (with_reducible refine (rAt_is ax ay r4 r5 r6 Hr4.out Hr5.out Hr6.out _iax _iay  _).mono ?_); rintro e w2 ⟨bn7, ba7, bl7, bc7, bn8, ba8, bl8, bc8, bn9, ba9, bl9, bc9, rfl, hbm7, hbm8, hbm9, hn⟩; have HB7 := Lib.hid hbm7; have HB8 := Lib.hid hbm8; have HB9 := Lib.hid hbm9; clear hbm7 hbm8 hbm9) | (go_at_call 56; (with_reducible refine (rSpC_is r4 r5 r6 X Y Z r7 Hr7.out  bn7 ba7 bl7 bc7 bn8 ba8 bl8 bc8 bn9 ba9 bl9 bc9 nX aX lX cX nY aY lY cY nZ aZ lZ cZ _ (HB7.out.mono (by decide)) (HB8.out.mono (by decide)) (HB9.out.mono (by decide)) (HX.out.of hb) (HY.out.of hb) (HZ.out.of hb)).mono ?_); rintro e w2 ⟨rfl, hn⟩; replace HB7 := Lib.hid (HB7.out.of hn); replace HB8 := Lib.hid (HB8.out.of hn); replace HB9 := Lib.hid (HB9.out.of hn)) | (go_at_call 61; (with_reducible refine (rAt_is bx b_y r9 r10 r11 Hr9.out Hr10.out Hr11.out _ibx _ib_y  _).mono ?_); rintro e w2 ⟨bn10, ba10, bl10, bc10, bn11, ba11, bl11, bc11, bn12, ba12, bl12, bc12, rfl, hbm10, hbm11, hbm12, hn⟩; replace HB7 := Lib.hid (HB7.out.of hn); replace HB8 := Lib.hid (HB8.out.of hn); replace HB9 := Lib.hid (HB9.out.of hn); have HB10 := Lib.hid hbm10; have HB11 := Lib.hid hbm11; have HB12 := Lib.hid hbm12; clear hbm10 hbm11 hbm12)))
        replace hb := hb.trans (hn.mono hb.size)
        refine hK.out _ _ (up_iff.2 hb) ?_
        clear hK K
        clear hn
        refine wpS_doL rfl ?_
        intro K hK
        go_wp2_with ((first | (go_at_call 61; (with_reducible refine (rAt_is ax ay r4 r5 r6 Hr4.out Hr5.out Hr6.out _iax _iay  _).mono ?_); rintro e w2 ⟨bn7, ba7, bl7, bc7, bn8, ba8, bl8, bc8, bn9, ba9, bl9, bc9, rfl, hbm7, hbm8, hbm9, hn⟩; have HB7 := Lib.hid hbm7; have HB8 := Lib.hid hbm8; have HB9 := Lib.hid hbm9; clear hbm7 hbm8 hbm9) | (go_at_call 56; (with_reducible refine (rSpC_is r4 r5 r6 X Y Z r7 Hr7.out  bn7 ba7 bl7 bc7 bn8 ba8 bl8 bc8 bn9 ba9 bl9 bc9 nX aX lX cX nY aY lY cY nZ aZ lZ cZ _ (HB7.out.mono (by decide)) (HB8.out.mono (by decide)) (HB9.out.mono (by decide)) (HX.out.of hb) (HY.out.of hb) (HZ.out.of hb)).mono ?_); rintro e w2 ⟨rfl, hn⟩; replace HB7 := Lib.hid (HB7.out.of hn); replace HB8 := Lib.hid (HB8.out.of hn); replace HB9 := Lib.hid (HB9.out.of hn)) | (go_at_call 61; (with_reducible refine (rAt_is bx b_y r9 r10 r11 Hr9.out Hr10.out Hr11.out _ibx _ib_y  _).mono ?_); rintro e w2 ⟨bn10, ba10, bl10, bc10, bn11, ba11, bl11, bc11, bn12, ba12, bl12, bc12, rfl, hbm10, hbm11, hbm12, hn⟩; replace HB7 := Lib.hid (HB7.out.of hn); replace HB8 := Lib.hid (HB8.out.of hn); replace HB9 := Lib.hid (HB9.out.of hn); have HB10 := Lib.hid hbm10; have HB11 := Lib.hid hbm11; have HB12 := Lib.hid hbm12; clear hbm10 hbm11 hbm12)))
        replace hb := hb.trans (hn.mono hb.size)
        refine hK.out _ _ (up_iff.2 hb) ?_
        clear hK K
        clear hn
        iterate 4
          refine wpS_takeL rfl rfl ?_
          go_big_quiet_step (rfl)
          refine wpQuiet_nil ?_
        refine wpS_doL rfl ?_
        intro K hK
        go_wp2_with ((first | (go_at_call 61; (with_reducible refine (rAt_is ax ay r4 r5 r6 Hr4.out Hr5.out Hr6.out _iax _iay  _).mono ?_); rintro e w2 ⟨bn7, ba7, bl7, bc7, bn8, ba8, bl8, bc8, bn9, ba9, bl9, bc9, rfl, hbm7, hbm8, hbm9, hn⟩; have HB7 := Lib.hid hbm7; have HB8 := Lib.hid hbm8; have HB9 := Lib.hid hbm9; clear hbm7 hbm8 hbm9) | (go_at_call 56; (with_reducible refine (rSpC_is r4 r5 r6 X Y Z r7 Hr7.out  bn7 ba7 bl7 bc7 bn8 ba8 bl8 bc8 bn9 ba9 bl9 bc9 nX aX lX cX nY aY lY cY nZ aZ lZ cZ _ (HB7.out.mono (by decide)) (HB8.out.mono (by decide)) (HB9.out.mono (by decide)) (HX.out.of hb) (HY.out.of hb) (HZ.out.of hb)).mono ?_); rintro e w2 ⟨rfl, hn⟩; replace HB7 := Lib.hid (HB7.out.of hn); replace HB8 := Lib.hid (HB8.out.of hn); replace HB9 := Lib.hid (HB9.out.of hn)) | (go_at_call 61; (with_reducible refine (rAt_is bx b_y r9 r10 r11 Hr9.out Hr10.out Hr11.out _ibx _ib_y  _).mono ?_); rintro e w2 ⟨bn10, ba10, bl10, bc10, bn11, ba11, bl11, bc11, bn12, ba12, bl12, bc12, rfl, hbm10, hbm11, hbm12, hn⟩; replace HB7 := Lib.hid (HB7.out.of hn); replace HB8 := Lib.hid (HB8.out.of hn); replace HB9 := Lib.hid (HB9.out.of hn); have HB10 := Lib.hid hbm10; have HB11 := Lib.hid hbm11; have HB12 := Lib.hid hbm12; clear hbm10 hbm11 hbm12)))
        try replace hb := hb.trans (hn.mono hb.size)
        refine hK.out _ _ (up_iff.2 hb) ?_
        clear hK K
        try clear hn
        refine wpS_nil ?_
        simp only [List.drop_succ_cons, List.drop_zero]
        first | refine calls_w ?_ | refine name_world ?_ | refine list_world ?_ | refine post_world ?_
        intro U5 hU5
        first | subst hU5 | (rw [← hU5] at hb; clear hU5)
        clear c1_0 c1_1 l1 c2_0 c2_1 l2 c3_0 c3_1 c3_2 c3_3 c3_4 c3_5 l3
        have k1 := Kk1.out.of hb
        clear Kk1
        have k2 := Kk2.out.of hb
        clear Kk2
        have k3 := Kk3.out.of hb
        clear Kk3
        replace HX := Lib.hid (HX.out.of hb)
        replace HY := Lib.hid (HY.out.of hb)
        replace HZ := Lib.hid (HZ.out.of hb)
        replace hb0 := hb0.trans (hb.mono hb0.size)
        clear hb
        go_wp2_with fail
        obtain ⟨r12, hr12⟩ : ∃ o_o : Int, rspC X Y Z r9 r10 r11 = o_o := ⟨_, rfl⟩
        have Hr12 := Lib.hid hr12
        clear hr12
        refine (rSpC_is X Y Z r9 r10 r11 r12 Hr12.out  nX aX lX cX nY aY lY cY nZ aZ lZ cZ bn10 ba10 bl10 bc10 bn11 ba11 bl11 bc11 bn12 ba12 bl12 bc12 _ HX.out HY.out HZ.out (HB10.out.mono (by decide)) (HB11.out.mono (by decide)) (HB12.out.mono (by decide))).mono ?_
        rintro e U6 ⟨rfl, hn⟩
        clear HX HY HZ HB7 HB8 HB9 HB10 HB11 HB12
        clear k1 k2 k3
        replace hb0 := hb0.trans (hn.mono hb0.size)
        clear hn
        have e0 : decide (r12 ≤ 0) = R0 := by rw [← HR0.out]; unfold rhld; (try rw [Hr1.out]); (try rw [Hz3.out]); (try rw [Hr4.out]); (try rw [Hr5.out]); (try rw [Hr6.out]); (try rw [Hr7.out]); (try rw [hz8]); (try rw [Hr9.out]); (try rw [Hr10.out]); (try rw [Hr11.out]); (try rw [Hr12.out]); all_goals first | rfl | simp
        subst e0
        go_wp2
        first | go_ret | go_ret2
        exact ⟨by first | rfl | simp, hb0⟩
    · go_wp2_with fail
      obtain ⟨r13, hr13⟩ : ∃ o_o : Int, rAtx bx b_y = o_o := ⟨_, rfl⟩
      have Hr13 := Lib.hid hr13
      clear hr13
      obtain ⟨r14, hr14⟩ : ∃ o_o : Int, rAty bx b_y = o_o := ⟨_, rfl⟩
      have Hr14 := Lib.hid hr14
      clear hr14
      obtain ⟨r15, hr15⟩ : ∃ o_o : Int, rAtw bx b_y = o_o := ⟨_, rfl⟩
      have Hr15 := Lib.hid hr15
      clear hr15
      obtain ⟨r16, hr16⟩ : ∃ o_o : Int, rspC r13 r14 r15 X Y Z = o_o := ⟨_, rfl⟩
      have Hr16 := Lib.hid hr16
      clear hr16
      obtain ⟨z17, hz17⟩ : ∃ o_o : Bool, decide (r16 ≤ 0) = o_o := ⟨_, rfl⟩
      cases z17
      · have c2_0 : U3.cell? ⟨(w.heap.size + 1), 0, none⟩ = some (.int .i64 bx) := k2.cell 0
        have c2_1 : U3.cell? ⟨(w.heap.size + 1), 1, none⟩ = some (.int .i64 b_y) := k2.cell 1
        have l2 := k2.lt
        have c3_0 : U3.cell? ⟨(w.heap.size + 1 + 1), 0, none⟩ = some (.bool nX) := k3.cell 0
        have c3_1 : U3.cell? ⟨(w.heap.size + 1 + 1), 1, none⟩ = some (.slice aX lX cX) := k3.cell 1
        have c3_2 : U3.cell? ⟨(w.heap.size + 1 + 1), 2, none⟩ = some (.bool nY) := k3.cell 2
        have c3_3 : U3.cell? ⟨(w.heap.size + 1 + 1), 3, none⟩ = some (.slice aY lY cY) := k3.cell 3
        have c3_4 : U3.cell? ⟨(w.heap.size + 1 + 1), 4, none⟩ = some (.bool nZ) := k3.cell 4
        have c3_5 : U3.cell? ⟨(w.heap.size + 1 + 1), 5, none⟩ = some (.slice aZ lZ cZ) := k3.cell 5
        have l3 := k3.lt
        have Kk1 := Lib.hid k1
        clear k1
        have Kk2 := Lib.hid k2
        clear k2
        have Kk3 := Lib.hid k3
        clear k3
        refine wp_region_up U3.heap.size 9 [(true, 0), (true, 2), (false, 1), (false, 3), (true, 4), (true, 5), (true, 6), (true, 7), (false, 8)] (by kernel_rfl) (by kernel_rfl) (fun _ _ d _ _ h => by cases d <;> exact h) ?_
        have hb : Below U3.heap.size U3 U3.drew := (Below.refl _ _).drew
        iterate 2
          refine wpS_takeL rfl rfl ?_
          go_big_quiet_step (rfl)
          refine wpQuiet_nil ?_
        refine wpS_doL rfl ?_
        intro K hK
        go_wp2_with ((first | (go_at_call 61; (with_reducible refine (rAt_is bx b_y r13 r14 r15 Hr13.out Hr14.out Hr15.out _ibx _ib_y  _).mono ?_); rintro e w2 ⟨bn16, ba16, bl16, bc16, bn17, ba17, bl17, bc17, bn18, ba18, bl18, bc18, rfl, hbm16, hbm17, hbm18, hn⟩; have HB16 := Lib.hid hbm16; have HB17 := Lib.hid hbm17; have HB18 := Lib.hid hbm18; clear hbm16 hbm17 hbm18) | (go_at_call 56; (with_reducible refine (rSpC_is r13 r14 r15 X Y Z r16 Hr16.out  bn16 ba16 bl16 bc16 bn17 ba17 bl17 bc17 bn18 ba18 bl18 bc18 nX aX lX cX nY aY lY cY nZ aZ lZ cZ _ (HB16.out.mono (by decide)) (HB17.out.mono (by decide)) (HB18.out.mono (by decide)) (HX.out.of hb) (HY.out.of hb) (HZ.out.of hb)).mono ?_); rintro e w2 ⟨rfl, hn⟩; replace HB16 := Lib.hid (HB16.out.of hn); replace HB17 := Lib.hid (HB17.out.of hn); replace HB18 := Lib.hid (HB18.out.of hn))))
        replace hb := hb.trans (hn.mono hb.size)
        refine hK.out _ _ (up_iff.2 hb) ?_
        clear hK K
        clear hn
        refine wpS_doL rfl ?_
        intro K hK
        go_wp2_with ((first | (go_at_call 61; (with_reducible refine (rAt_is bx b_y r13 r14 r15 Hr13.out Hr14.out Hr15.out _ibx _ib_y  _).mono ?_); rintro e w2 ⟨bn16, ba16, bl16, bc16, bn17, ba17, bl17, bc17, bn18, ba18, bl18, bc18, rfl, hbm16, hbm17, hbm18, hn⟩; have HB16 := Lib.hid hbm16; have HB17 := Lib.hid hbm17; have HB18 := Lib.hid hbm18; clear hbm16 hbm17 hbm18) | (go_at_call 56; (with_reducible refine (rSpC_is r13 r14 r15 X Y Z r16 Hr16.out  bn16 ba16 bl16 bc16 bn17 ba17 bl17 bc17 bn18 ba18 bl18 bc18 nX aX lX cX nY aY lY cY nZ aZ lZ cZ _ (HB16.out.mono (by decide)) (HB17.out.mono (by decide)) (HB18.out.mono (by decide)) (HX.out.of hb) (HY.out.of hb) (HZ.out.of hb)).mono ?_); rintro e w2 ⟨rfl, hn⟩; replace HB16 := Lib.hid (HB16.out.of hn); replace HB17 := Lib.hid (HB17.out.of hn); replace HB18 := Lib.hid (HB18.out.of hn))))
        replace hb := hb.trans (hn.mono hb.size)
        refine hK.out _ _ (up_iff.2 hb) ?_
        clear hK K
        clear hn
        iterate 4
          refine wpS_takeL rfl rfl ?_
          go_big_quiet_step (rfl)
          refine wpQuiet_nil ?_
        refine wpS_doL rfl ?_
        intro K hK
        go_wp2_with ((first | (go_at_call 61; (with_reducible refine (rAt_is bx b_y r13 r14 r15 Hr13.out Hr14.out Hr15.out _ibx _ib_y  _).mono ?_); rintro e w2 ⟨bn16, ba16, bl16, bc16, bn17, ba17, bl17, bc17, bn18, ba18, bl18, bc18, rfl, hbm16, hbm17, hbm18, hn⟩; have HB16 := Lib.hid hbm16; have HB17 := Lib.hid hbm17; have HB18 := Lib.hid hbm18; clear hbm16 hbm17 hbm18) | (go_at_call 56; (with_reducible refine (rSpC_is r13 r14 r15 X Y Z r16 Hr16.out  bn16 ba16 bl16 bc16 bn17 ba17 bl17 bc17 bn18 ba18 bl18 bc18 nX aX lX cX nY aY lY cY nZ aZ lZ cZ _ (HB16.out.mono (by decide)) (HB17.out.mono (by decide)) (HB18.out.mono (by decide)) (HX.out.of hb) (HY.out.of hb) (HZ.out.of hb)).mono ?_); rintro e w2 ⟨rfl, hn⟩; replace HB16 := Lib.hid (HB16.out.of hn); replace HB17 := Lib.hid (HB17.out.of hn); replace HB18 := Lib.hid (HB18.out.of hn))))
        try replace hb := hb.trans (hn.mono hb.size)
        refine hK.out _ _ (up_iff.2 hb) ?_
        clear hK K
        try clear hn
        refine wpS_nil ?_
        simp only [List.drop_succ_cons, List.drop_zero]
        first | refine calls_w ?_ | refine name_world ?_ | refine list_world ?_ | refine post_world ?_
        intro U7 hU7
        first | subst hU7 | (rw [← hU7] at hb; clear hU7)
        clear c2_0 c2_1 l2 c3_0 c3_1 c3_2 c3_3 c3_4 c3_5 l3
        have k1 := Kk1.out.of hb
        clear Kk1
        have k2 := Kk2.out.of hb
        clear Kk2
        have k3 := Kk3.out.of hb
        clear Kk3
        replace HX := Lib.hid (HX.out.of hb)
        replace HY := Lib.hid (HY.out.of hb)
        replace HZ := Lib.hid (HZ.out.of hb)
        replace hb0 := hb0.trans (hb.mono hb0.size)
        clear hb
        have e0 : false = R0 := by rw [← HR0.out]; unfold rhld; (try rw [Hr1.out]); (try rw [Hz3.out]); (try rw [Hr13.out]); (try rw [Hr14.out]); (try rw [Hr15.out]); (try rw [Hr16.out]); (try rw [hz17]); all_goals first | rfl | simp
        subst e0
        go_wp2
        first | go_ret | go_ret2
        exact ⟨by first | rfl | simp, hb0⟩
      · obtain ⟨r18, hr18⟩ : ∃ o_o : Int, rAtx ax ay = o_o := ⟨_, rfl⟩
        have Hr18 := Lib.hid hr18
        clear hr18
        obtain ⟨r19, hr19⟩ : ∃ o_o : Int, rAty ax ay = o_o := ⟨_, rfl⟩
        have Hr19 := Lib.hid hr19
        clear hr19
        obtain ⟨r20, hr20⟩ : ∃ o_o : Int, rAtw ax ay = o_o := ⟨_, rfl⟩
        have Hr20 := Lib.hid hr20
        clear hr20
        have c1_0 : U3.cell? ⟨w.heap.size, 0, none⟩ = some (.int .i64 ax) := k1.cell 0
        have c1_1 : U3.cell? ⟨w.heap.size, 1, none⟩ = some (.int .i64 ay) := k1.cell 1
        have l1 := k1.lt
        have c2_0 : U3.cell? ⟨(w.heap.size + 1), 0, none⟩ = some (.int .i64 bx) := k2.cell 0
        have c2_1 : U3.cell? ⟨(w.heap.size + 1), 1, none⟩ = some (.int .i64 b_y) := k2.cell 1
        have l2 := k2.lt
        have c3_0 : U3.cell? ⟨(w.heap.size + 1 + 1), 0, none⟩ = some (.bool nX) := k3.cell 0
        have c3_1 : U3.cell? ⟨(w.heap.size + 1 + 1), 1, none⟩ = some (.slice aX lX cX) := k3.cell 1
        have c3_2 : U3.cell? ⟨(w.heap.size + 1 + 1), 2, none⟩ = some (.bool nY) := k3.cell 2
        have c3_3 : U3.cell? ⟨(w.heap.size + 1 + 1), 3, none⟩ = some (.slice aY lY cY) := k3.cell 3
        have c3_4 : U3.cell? ⟨(w.heap.size + 1 + 1), 4, none⟩ = some (.bool nZ) := k3.cell 4
        have c3_5 : U3.cell? ⟨(w.heap.size + 1 + 1), 5, none⟩ = some (.slice aZ lZ cZ) := k3.cell 5
        have l3 := k3.lt
        have Kk1 := Lib.hid k1
        clear k1
        have Kk2 := Lib.hid k2
        clear k2
        have Kk3 := Lib.hid k3
        clear k3
        refine wp_region_up U3.heap.size 9 [(true, 0), (true, 2), (false, 1), (false, 3), (true, 4), (true, 5), (true, 6), (true, 7), (false, 8)] (by kernel_rfl) (by kernel_rfl) (fun _ _ d _ _ h => by cases d <;> exact h) ?_
        have hb : Below U3.heap.size U3 U3.drew := (Below.refl _ _).drew
        iterate 2
          refine wpS_takeL rfl rfl ?_
          go_big_quiet_step (rfl)
          refine wpQuiet_nil ?_
        refine wpS_doL rfl ?_
        intro K hK
        go_wp2_with ((first | (go_at_call 61; (with_reducible refine (rAt_is bx b_y r13 r14 r15 Hr13.out Hr14.out Hr15.out _ibx _ib_y  _).mono ?_); rintro e w2 ⟨bn19, ba19, bl19, bc19, bn20, ba20, bl20, bc20, bn21, ba21, bl21, bc21, rfl, hbm19, hbm20, hbm21, hn⟩; have HB19 := Lib.hid hbm19; have HB20 := Lib.hid hbm20; have HB21 := Lib.hid hbm21; clear hbm19 hbm20 hbm21) | (go_at_call 56; (with_reducible refine (rSpC_is r13 r14 r15 X Y Z r16 Hr16.out  bn19 ba19 bl19 bc19 bn20 ba20 bl20 bc20 bn21 ba21 bl21 bc21 nX aX lX cX nY aY lY cY nZ aZ lZ cZ _ (HB19.out.mono (by decide)) (HB20.out.mono (by decide)) (HB21.out.mono (by decide)) (HX.out.of hb) (HY.out.of hb) (HZ.out.of hb)).mono ?_); rintro e w2 ⟨rfl, hn⟩; replace HB19 := Lib.hid (HB19.out.of hn); replace HB20 := Lib.hid (HB20.out.of hn); replace HB21 := Lib.hid (HB21.out.of hn)) | (go_at_call 61; (with_reducible refine (rAt_is ax ay r18 r19 r20 Hr18.out Hr19.out Hr20.out _iax _iay  _).mono ?_); rintro e w2 ⟨bn22, ba22, bl22, bc22, bn23, ba23, bl23, bc23, bn24, ba24, bl24, bc24, rfl, hbm22, hbm23, hbm24, hn⟩; replace HB19 := Lib.hid (HB19.out.of hn); replace HB20 := Lib.hid (HB20.out.of hn); replace HB21 := Lib.hid (HB21.out.of hn); have HB22 := Lib.hid hbm22; have HB23 := Lib.hid hbm23; have HB24 := Lib.hid hbm24; clear hbm22 hbm23 hbm24)))
        replace hb := hb.trans (hn.mono hb.size)
        refine hK.out _ _ (up_iff.2 hb) ?_
        clear hK K
        clear hn
        refine wpS_doL rfl ?_
        intro K hK
        go_wp2_with ((first | (go_at_call 61; (with_reducible refine (rAt_is bx b_y r13 r14 r15 Hr13.out Hr14.out Hr15.out _ibx _ib_y  _).mono ?_); rintro e w2 ⟨bn19, ba19, bl19, bc19, bn20, ba20, bl20, bc20, bn21, ba21, bl21, bc21, rfl, hbm19, hbm20, hbm21, hn⟩; have HB19 := Lib.hid hbm19; have HB20 := Lib.hid hbm20; have HB21 := Lib.hid hbm21; clear hbm19 hbm20 hbm21) | (go_at_call 56; (with_reducible refine (rSpC_is r13 r14 r15 X Y Z r16 Hr16.out  bn19 ba19 bl19 bc19 bn20 ba20 bl20 bc20 bn21 ba21 bl21 bc21 nX aX lX cX nY aY lY cY nZ aZ lZ cZ _ (HB19.out.mono (by decide)) (HB20.out.mono (by decide)) (HB21.out.mono (by decide)) (HX.out.of hb) (HY.out.of hb) (HZ.out.of hb)).mono ?_); rintro e w2 ⟨rfl, hn⟩; replace HB19 := Lib.hid (HB19.out.of hn); replace HB20 := Lib.hid (HB20.out.of hn); replace HB21 := Lib.hid (HB21.out.of hn)) | (go_at_call 61; (with_reducible refine (rAt_is ax ay r18 r19 r20 Hr18.out Hr19.out Hr20.out _iax _iay  _).mono ?_); rintro e w2 ⟨bn22, ba22, bl22, bc22, bn23, ba23, bl23, bc23, bn24, ba24, bl24, bc24, rfl, hbm22, hbm23, hbm24, hn⟩; replace HB19 := Lib.hid (HB19.out.of hn); replace HB20 := Lib.hid (HB20.out.of hn); replace HB21 := Lib.hid (HB21.out.of hn); have HB22 := Lib.hid hbm22; have HB23 := Lib.hid hbm23; have HB24 := Lib.hid hbm24; clear hbm22 hbm23 hbm24)))
        replace hb := hb.trans (hn.mono hb.size)
        refine hK.out _ _ (up_iff.2 hb) ?_
        clear hK K
        clear hn
        iterate 4
          refine wpS_takeL rfl rfl ?_
          go_big_quiet_step (rfl)
          refine wpQuiet_nil ?_
        refine wpS_doL rfl ?_
        intro K hK
        go_wp2_with ((first | (go_at_call 61; (with_reducible refine (rAt_is bx b_y r13 r14 r15 Hr13.out Hr14.out Hr15.out _ibx _ib_y  _).mono ?_); rintro e w2 ⟨bn19, ba19, bl19, bc19, bn20, ba20, bl20, bc20, bn21, ba21, bl21, bc21, rfl, hbm19, hbm20, hbm21, hn⟩; have HB19 := Lib.hid hbm19; have HB20 := Lib.hid hbm20; have HB21 := Lib.hid hbm21; clear hbm19 hbm20 hbm21) | (go_at_call 56; (with_reducible refine (rSpC_is r13 r14 r15 X Y Z r16 Hr16.out  bn19 ba19 bl19 bc19 bn20 ba20 bl20 bc20 bn21 ba21 bl21 bc21 nX aX lX cX nY aY lY cY nZ aZ lZ cZ _ (HB19.out.mono (by decide)) (HB20.out.mono (by decide)) (HB21.out.mono (by decide)) (HX.out.of hb) (HY.out.of hb) (HZ.out.of hb)).mono ?_); rintro e w2 ⟨rfl, hn⟩; replace HB19 := Lib.hid (HB19.out.of hn); replace HB20 := Lib.hid (HB20.out.of hn); replace HB21 := Lib.hid (HB21.out.of hn)) | (go_at_call 61; (with_reducible refine (rAt_is ax ay r18 r19 r20 Hr18.out Hr19.out Hr20.out _iax _iay  _).mono ?_); rintro e w2 ⟨bn22, ba22, bl22, bc22, bn23, ba23, bl23, bc23, bn24, ba24, bl24, bc24, rfl, hbm22, hbm23, hbm24, hn⟩; replace HB19 := Lib.hid (HB19.out.of hn); replace HB20 := Lib.hid (HB20.out.of hn); replace HB21 := Lib.hid (HB21.out.of hn); have HB22 := Lib.hid hbm22; have HB23 := Lib.hid hbm23; have HB24 := Lib.hid hbm24; clear hbm22 hbm23 hbm24)))
        try replace hb := hb.trans (hn.mono hb.size)
        refine hK.out _ _ (up_iff.2 hb) ?_
        clear hK K
        try clear hn
        refine wpS_nil ?_
        simp only [List.drop_succ_cons, List.drop_zero]
        first | refine calls_w ?_ | refine name_world ?_ | refine list_world ?_ | refine post_world ?_
        intro U8 hU8
        first | subst hU8 | (rw [← hU8] at hb; clear hU8)
        clear c1_0 c1_1 l1 c2_0 c2_1 l2 c3_0 c3_1 c3_2 c3_3 c3_4 c3_5 l3
        have k1 := Kk1.out.of hb
        clear Kk1
        have k2 := Kk2.out.of hb
        clear Kk2
        have k3 := Kk3.out.of hb
        clear Kk3
        replace HX := Lib.hid (HX.out.of hb)
        replace HY := Lib.hid (HY.out.of hb)
        replace HZ := Lib.hid (HZ.out.of hb)
        replace hb0 := hb0.trans (hb.mono hb0.size)
        clear hb
        go_wp2_with fail
        obtain ⟨r21, hr21⟩ : ∃ o_o : Int, rspC X Y Z r18 r19 r20 = o_o := ⟨_, rfl⟩
        have Hr21 := Lib.hid hr21
        clear hr21
        refine (rSpC_is X Y Z r18 r19 r20 r21 Hr21.out  nX aX lX cX nY aY lY cY nZ aZ lZ cZ bn22 ba22 bl22 bc22 bn23 ba23 bl23 bc23 bn24 ba24 bl24 bc24 _ HX.out HY.out HZ.out (HB22.out.mono (by decide)) (HB23.out.mono (by decide)) (HB24.out.mono (by decide))).mono ?_
        rintro e U9 ⟨rfl, hn⟩
        clear HB19 HB20 HB21 HB22 HB23 HB24
        replace k1 := k1.of hn
        replace k2 := k2.of hn
        replace k3 := k3.of hn
        replace HX := Lib.hid (HX.out.of hn)
        replace HY := Lib.hid (HY.out.of hn)
        replace HZ := Lib.hid (HZ.out.of hn)
        replace hb0 := hb0.trans (hn.mono hb0.size)
        clear hn
        have e0 : decide (r21 ≤ 0) = R0 := by rw [← HR0.out]; unfold rhld; (try rw [Hr1.out]); (try rw [Hz3.out]); (try rw [Hr13.out]); (try rw [Hr14.out]); (try rw [Hr15.out]); (try rw [Hr16.out]); (try rw [hz17]); (try rw [Hr18.out]); (try rw [Hr19.out]); (try rw [Hr20.out]); (try rw [Hr21.out]); all_goals first | rfl | simp
        subst e0
        go_wp2
        first | go_ret | go_ret2
        exact ⟨by first | rfl | simp, hb0⟩

def crfx (x : Int) (y : Int) : Int := x

def crfy (x : Int) (y : Int) : Int := y

theorem crfx_in (x : Int) (y : Int) (_ix : In64 x) (_iy : In64 y) : In64 (crfx x y) := by
  unfold crfx
  exact _ix

theorem crfy_in (x : Int) (y : Int) (_ix : In64 x) (_iy : In64 y) : In64 (crfy x y) := by
  unfold crfy
  exact _iy

set_option maxRecDepth 100000 in
set_option maxHeartbeats 4000000 in

theorem cref_is (x : Int) (y : Int)  (R0 : Int) (R1 : Int) (hR0 : crfx x y = R0) (hR1 : crfy x y = R1) (_ix : In64 x) (_iy : In64 y)  (w : World)  :
    Calls Try.prog 52 #[.agg #[.int .i64 x, .int .i64 y]] w fun e w' => e = .returned (.agg #[.int .i64 R0, .int .i64 R1]) ∧ Below w.heap.size w w' := by

  have HR0 := Lib.hid hR0
  clear hR0
  have HR1 := Lib.hid hR1
  clear hR1
  go_enter Try.func52, Try.ntmps52
  have e0 : x = R0 := by rw [← HR0.out]; unfold crfx; all_goals first | rfl | simp
  have e1 : y = R1 := by rw [← HR1.out]; unfold crfy; all_goals first | rfl | simp
  subst e0
  subst e1
  go_wp2
  first | refine post_world ?_
  intro V1 hV1
  have hn : Below w.heap.size w V1 := by rw [hV1]; exact below_a2 _ _ _
  have nhb0 := hn
  have k2 : Blk V1 (w.heap.size + 1) #[.int .i64 x, .int .i64 y] 31 := by rw [hV1]; exact (Blk.new1 _ _ _ _)
  clear hV1
  have hb0 := nhb0
  clear nhb0
  have g2_0 : V1.cell? ⟨(w.heap.size + 1), 0, none⟩ = some (.int .i64 x) := k2.cell 0
  have g2_1 : V1.cell? ⟨(w.heap.size + 1), 1, none⟩ = some (.int .i64 y) := k2.cell 1
  clear k2
  simp [bodyPost, results, Try.results52, go_sem, g2_0, g2_1]
  first | exact hb0 | exact ⟨rfl, hb0⟩

def cspx (x : Int) (y : Int) (v : Int) : Int := (x)

def cspy (x : Int) (y : Int) (v : Int) : Int := (y)

def cspv (x : Int) (y : Int) (v : Int) : Int := (v)

def cspot_is_post (w : World) (R0 : Int) (R1 : Int) (R2 : Int) (e : Ending) (w' : World) : Prop := ∃ (m0 : Bool) (p0 : Option Addr) (q0 t0 : Nat) (m1 : Bool) (p1 : Option Addr) (q1 t1 : Nat) (m2 : Bool) (p2 : Option Addr) (q2 t2 : Nat), e = .returned (.agg #[.bool m0, .slice p0 q0 t0, .bool m1, .slice p1 q1 t1, .bool m2, .slice p2 q2 t2]) ∧ Big w' (.agg #[.bool m0, .slice p0 q0 t0]) R0 18 ∧ Big w' (.agg #[.bool m1, .slice p1 q1 t1]) R1 18 ∧ Big w' (.agg #[.bool m2, .slice p2 q2 t2]) R2 18 ∧ Below w.heap.size w w'

set_option maxRecDepth 100000 in
set_option maxHeartbeats 4000000 in

theorem cspot_is (x : Int) (y : Int) (v : Int)  (R0 : Int) (R1 : Int) (R2 : Int) (hR0 : cspx x y v = R0) (hR1 : cspy x y v = R1) (hR2 : cspv x y v = R2) (_ix : InI x) (_iy : InI y) (_iv : InI v)  (w : World)  :
    Calls Try.prog 55 #[.agg #[.int .u64 (wd0 x), .int .u64 (wd1 x), .int .u64 (wd2 x), .int .u64 (wd3 x), .int .u64 (wd0 y), .int .u64 (wd1 y), .int .u64 (wd2 y), .int .u64 (wd3 y), .int .u64 (wd0 v), .int .u64 (wd1 v), .int .u64 (wd2 v), .int .u64 (wd3 v)]] w (cspot_is_post w R0 R1 R2) := by

  have HR0 := Lib.hid hR0
  clear hR0
  have HR1 := Lib.hid hR1
  clear hR1
  have HR2 := Lib.hid hR2
  clear hR2
  go_enter Try.func55, Try.ntmps55
  go_wp2_with fail
  first | refine calls_w ?_ | refine name_world ?_ | refine list_world ?_ | refine post_world ?_
  intro V1 hV1
  have hn : Below w.heap.size w V1 := by rw [hV1]; exact below_a2 _ _ _
  have nhb0 := hn
  have k1 : Blk V1 w.heap.size #[.int .u64 (wd0 x), .int .u64 (wd1 x), .int .u64 (wd2 x), .int .u64 (wd3 x), .int .u64 (wd0 y), .int .u64 (wd1 y), .int .u64 (wd2 y), .int .u64 (wd3 y), .int .u64 (wd0 v), .int .u64 (wd1 v), .int .u64 (wd2 v), .int .u64 (wd3 v)] 67 := by rw [hV1]; exact ((Blk.new _ _ _).alloc _)
  have k2 : Blk V1 (w.heap.size + 1) #[.bool false, .slice none 0 0, .bool false, .slice none 0 0, .bool false, .slice none 0 0] 72 := by rw [hV1]; exact (Blk.new1 _ _ _ _)
  clear hV1
  have hb0 := nhb0
  clear nhb0
  obtain ⟨r1, hr1⟩ : ∃ o_o : Int, x = o_o := ⟨_, rfl⟩
  have Hr1 := Lib.hid hr1
  clear hr1
  obtain ⟨r2, hr2⟩ : ∃ o_o : Int, y = o_o := ⟨_, rfl⟩
  have Hr2 := Lib.hid hr2
  clear hr2
  have c1_0 : V1.cell? ⟨w.heap.size, 0, none⟩ = some (.int .u64 (wd0 x)) := k1.cell 0
  have c1_1 : V1.cell? ⟨w.heap.size, 1, none⟩ = some (.int .u64 (wd1 x)) := k1.cell 1
  have c1_2 : V1.cell? ⟨w.heap.size, 2, none⟩ = some (.int .u64 (wd2 x)) := k1.cell 2
  have c1_3 : V1.cell? ⟨w.heap.size, 3, none⟩ = some (.int .u64 (wd3 x)) := k1.cell 3
  have c1_4 : V1.cell? ⟨w.heap.size, 4, none⟩ = some (.int .u64 (wd0 y)) := k1.cell 4
  have c1_5 : V1.cell? ⟨w.heap.size, 5, none⟩ = some (.int .u64 (wd1 y)) := k1.cell 5
  have c1_6 : V1.cell? ⟨w.heap.size, 6, none⟩ = some (.int .u64 (wd2 y)) := k1.cell 6
  have c1_7 : V1.cell? ⟨w.heap.size, 7, none⟩ = some (.int .u64 (wd3 y)) := k1.cell 7
  have c1_8 : V1.cell? ⟨w.heap.size, 8, none⟩ = some (.int .u64 (wd0 v)) := k1.cell 8
  have c1_9 : V1.cell? ⟨w.heap.size, 9, none⟩ = some (.int .u64 (wd1 v)) := k1.cell 9
  have c1_10 : V1.cell? ⟨w.heap.size, 10, none⟩ = some (.int .u64 (wd2 v)) := k1.cell 10
  have c1_11 : V1.cell? ⟨w.heap.size, 11, none⟩ = some (.int .u64 (wd3 v)) := k1.cell 11
  have l1 := k1.lt
  have Kk1 := Lib.hid k1
  clear k1
  have Kk2 := Lib.hid k2
  clear k2
  refine wp_region_up V1.heap.size 8 [(true, 0), (true, 1), (true, 3), (true, 4), (true, 6), (true, 7), (false, 2), (false, 5)] (by kernel_rfl) (by kernel_rfl) (fun _ _ d _ _ h => by cases d <;> exact h) ?_
  have hb : Below V1.heap.size V1 V1.drew := (Below.refl _ _).drew
  iterate 6
    refine wpS_takeL rfl rfl ?_
    go_big_quiet_step (rfl)
    refine wpQuiet_nil ?_
  refine wpS_doL rfl ?_
  intro K hK
  go_wp2_with ((first | (go_at_call 24; (with_reducible refine (Read_v x r1 Hr1.out _ix _).mono ?_); rintro e w2 ⟨v_, rfl, hbm, hn⟩; have HB1 := Lib.hid hbm; have hvm := hbm.shape; clear hbm; obtain ⟨bn1, ba1, bl1, bc1, rfl⟩ := hvm) | (go_at_call 24; (with_reducible refine (Read_v y r2 Hr2.out _iy _).mono ?_); rintro e w2 ⟨v_, rfl, hbm, hn⟩; replace HB1 := Lib.hid (HB1.out.of hn); have HB2 := Lib.hid hbm; have hvm := hbm.shape; clear hbm; obtain ⟨bn2, ba2, bl2, bc2, rfl⟩ := hvm)))
  replace hb := hb.trans (hn.mono hb.size)
  refine hK.out _ _ (up_iff.2 hb) ?_
  clear hK K
  clear hn
  refine wpS_doL rfl ?_
  intro K hK
  go_wp2_with ((first | (go_at_call 24; (with_reducible refine (Read_v x r1 Hr1.out _ix _).mono ?_); rintro e w2 ⟨v_, rfl, hbm, hn⟩; have HB1 := Lib.hid hbm; have hvm := hbm.shape; clear hbm; obtain ⟨bn1, ba1, bl1, bc1, rfl⟩ := hvm) | (go_at_call 24; (with_reducible refine (Read_v y r2 Hr2.out _iy _).mono ?_); rintro e w2 ⟨v_, rfl, hbm, hn⟩; replace HB1 := Lib.hid (HB1.out.of hn); have HB2 := Lib.hid hbm; have hvm := hbm.shape; clear hbm; obtain ⟨bn2, ba2, bl2, bc2, rfl⟩ := hvm)))
  replace hb := hb.trans (hn.mono hb.size)
  refine hK.out _ _ (up_iff.2 hb) ?_
  clear hK K
  clear hn
  refine wpS_nil ?_
  simp only [List.drop_succ_cons, List.drop_zero]
  first | refine calls_w ?_ | refine name_world ?_ | refine list_world ?_ | refine post_world ?_
  intro U2 hU2
  first | subst hU2 | (rw [← hU2] at hb; clear hU2)
  clear c1_0 c1_1 c1_2 c1_3 c1_4 c1_5 c1_6 c1_7 c1_8 c1_9 c1_10 c1_11 l1
  have k1 := Kk1.out.of hb
  clear Kk1
  have k2 := Kk2.out.of hb
  clear Kk2
  replace hb0 := hb0.trans (hb.mono hb0.size)
  clear hb
  go_wp2_with fail
  obtain ⟨r3, hr3⟩ : ∃ o_o : Int, v = o_o := ⟨_, rfl⟩
  have Hr3 := Lib.hid hr3
  clear hr3
  refine (Read_v v r3 Hr3.out _iv _).mono ?_
  rintro e U3 ⟨v_, rfl, hbm, hn⟩
  clear k1
  replace k2 := k2.of hn
  replace HB1 := Lib.hid (HB1.out.of hn)
  replace HB2 := Lib.hid (HB2.out.of hn)
  replace hb0 := hb0.trans (hn.mono hb0.size)
  clear hn
  have HB3 := Lib.hid hbm
  have hvm := hbm.shape
  clear hbm
  obtain ⟨bn3, ba3, bl3, bc3, rfl⟩ := hvm
  have c2_0 : U3.cell? ⟨(w.heap.size + 1), 0, none⟩ = some (.bool false) := k2.cell 0
  have c2_1 : U3.cell? ⟨(w.heap.size + 1), 1, none⟩ = some (.slice none 0 0) := k2.cell 1
  have c2_2 : U3.cell? ⟨(w.heap.size + 1), 2, none⟩ = some (.bool false) := k2.cell 2
  have c2_3 : U3.cell? ⟨(w.heap.size + 1), 3, none⟩ = some (.slice none 0 0) := k2.cell 3
  have c2_4 : U3.cell? ⟨(w.heap.size + 1), 4, none⟩ = some (.bool false) := k2.cell 4
  have c2_5 : U3.cell? ⟨(w.heap.size + 1), 5, none⟩ = some (.slice none 0 0) := k2.cell 5
  have f2_0 := k2.free 0
  have f2_1 := k2.free 1
  have f2_2 := k2.free 2
  have f2_3 := k2.free 3
  have f2_4 := k2.free 4
  have f2_5 := k2.free 5
  have l2 := k2.lt
  have e0 : r1 = R0 := by rw [← HR0.out]; unfold cspx; (try rw [Hr1.out]); (try rw [Hr2.out]); (try rw [Hr3.out]); all_goals first | rfl | simp
  have e1 : r2 = R1 := by rw [← HR1.out]; unfold cspy; (try rw [Hr1.out]); (try rw [Hr2.out]); (try rw [Hr3.out]); all_goals first | rfl | simp
  have e2 : r3 = R2 := by rw [← HR2.out]; unfold cspv; (try rw [Hr1.out]); (try rw [Hr2.out]); (try rw [Hr3.out]); all_goals first | rfl | simp
  subst e0
  subst e1
  subst e2
  go_wp2
  clear c2_0 c2_1 c2_2 c2_3 c2_4 c2_5 f2_0 f2_1 f2_2 f2_3 f2_4 f2_5 l2
  first | refine post_world ?_
  intro V4 hV4
  have D1 := Lib.hid k2.lt
  have D2 := Lib.hid hb0.size
  have nk2 : Blk V4 (w.heap.size + 1) #[.bool bn1, .slice ba1 bl1 bc1, .bool bn2, .slice ba2 bl2 bc2, .bool bn3, .slice ba3 bl3 bc3] 72 := by rw [hV4]; exact (blk_full _ [.bool bn1, .slice ba1 bl1 bc1, .bool bn2, .slice ba2 bl2 bc2, .bool bn3, .slice ba3 bl3 bc3] k2 rfl)
  have nhb0 : Below w.heap.size w V4 := by rw [hV4]; exact (blw_setL hb0 (by omega) 0 [.bool bn1, .slice ba1 bl1 bc1, .bool bn2, .slice ba2 bl2 bc2, .bool bn3, .slice ba3 bl3 bc3])
  replace HB1 : Hid (Big V4 (.agg #[.bool bn1, .slice ba1 bl1 bc1]) r1 18) := Lib.hid (by rw [hV4]; exact (big_setL HB1.out (Blk.cell k2 0) (fun _ h => by cases h) 0 [.bool bn1, .slice ba1 bl1 bc1, .bool bn2, .slice ba2 bl2 bc2, .bool bn3, .slice ba3 bl3 bc3]))
  replace HB2 : Hid (Big V4 (.agg #[.bool bn2, .slice ba2 bl2 bc2]) r2 18) := Lib.hid (by rw [hV4]; exact (big_setL HB2.out (Blk.cell k2 0) (fun _ h => by cases h) 0 [.bool bn1, .slice ba1 bl1 bc1, .bool bn2, .slice ba2 bl2 bc2, .bool bn3, .slice ba3 bl3 bc3]))
  replace HB3 : Hid (Big V4 (.agg #[.bool bn3, .slice ba3 bl3 bc3]) r3 18) := Lib.hid (by rw [hV4]; exact (big_setL HB3.out (Blk.cell k2 0) (fun _ h => by cases h) 0 [.bool bn1, .slice ba1 bl1 bc1, .bool bn2, .slice ba2 bl2 bc2, .bool bn3, .slice ba3 bl3 bc3]))
  clear k2
  clear hb0
  clear hV4
  have k2 := nk2
  clear nk2
  have hb0 := nhb0
  clear nhb0
  have g2_0 : V4.cell? ⟨(w.heap.size + 1), 0, none⟩ = some (.bool bn1) := k2.cell 0
  have g2_1 : V4.cell? ⟨(w.heap.size + 1), 1, none⟩ = some (.slice ba1 bl1 bc1) := k2.cell 1
  have g2_2 : V4.cell? ⟨(w.heap.size + 1), 2, none⟩ = some (.bool bn2) := k2.cell 2
  have g2_3 : V4.cell? ⟨(w.heap.size + 1), 3, none⟩ = some (.slice ba2 bl2 bc2) := k2.cell 3
  have g2_4 : V4.cell? ⟨(w.heap.size + 1), 4, none⟩ = some (.bool bn3) := k2.cell 4
  have g2_5 : V4.cell? ⟨(w.heap.size + 1), 5, none⟩ = some (.slice ba3 bl3 bc3) := k2.cell 5
  clear k2
  simp [bodyPost, results, Try.results55, go_sem, g2_0, g2_1, g2_2, g2_3, g2_4, g2_5]
  exact ⟨_, _, _, _, _, _, _, _, _, _, _, _, rfl, (HB1.out.mono (by decide)), (HB2.out.mono (by decide)), (HB3.out.mono (by decide)), hb0⟩

def crR (ax : Int) (ay : Int) (bx : Int) (b_y : Int) : Bool := (bif (rp (crfx ax ay) (crfy ax ay)) then (rp (crfx bx b_y) (crfy bx b_y)) else false)

set_option maxRecDepth 100000 in
set_option maxHeartbeats 4000000 in

theorem cright_is (ax : Int) (ay : Int) (bx : Int) (b_y : Int)  (R0 : Bool) (hR0 : crR ax ay bx b_y = R0) (_iax : In64 ax) (_iay : In64 ay) (_ibx : In64 bx) (_ib_y : In64 b_y)  (w : World)  :
    Calls Try.prog 50 #[.agg #[.int .i64 ax, .int .i64 ay, .int .i64 bx, .int .i64 b_y]] w fun e w' => e = .returned (.bool R0) ∧ Below w.heap.size w w' := by

  have HR0 := Lib.hid hR0
  clear hR0
  go_enter Try.func50, Try.ntmps50
  go_wp2_with fail
  first | refine calls_w ?_ | refine name_world ?_ | refine list_world ?_ | refine post_world ?_
  intro V1 hV1
  have hn : Below w.heap.size w V1 := by rw [hV1]; exact below_a1 _ _
  have nhb0 := hn
  have k1 : Blk V1 w.heap.size #[.int .i64 ax, .int .i64 ay, .int .i64 bx, .int .i64 b_y] 50 := by rw [hV1]; exact (Blk.new _ _ _)
  clear hV1
  have hb0 := nhb0
  clear nhb0
  obtain ⟨r1, hr1⟩ : ∃ o_o : Int, crfx ax ay = o_o := ⟨_, rfl⟩
  have Hr1 := Lib.hid hr1
  clear hr1
  obtain ⟨r2, hr2⟩ : ∃ o_o : Int, crfy ax ay = o_o := ⟨_, rfl⟩
  have Hr2 := Lib.hid hr2
  clear hr2
  refine (cref_is ax ay r1 r2 Hr1.out Hr2.out _iax _iay  _).mono ?_
  rintro e U2 ⟨rfl, hn⟩
  replace k1 := k1.of hn
  replace hb0 := hb0.trans (hn.mono hb0.size)
  clear hn
  go_wp2_with fail
  obtain ⟨z3, hz3⟩ : ∃ o_o : Bool, rp r1 r2 = o_o := ⟨_, rfl⟩
  have Hz3 := Lib.hid hz3
  clear hz3
  refine (rRight_v r1 r2 z3 Hz3.out _).mono ?_
  rintro e U3 ⟨rfl, hn⟩
  replace k1 := k1.of hn
  replace hb0 := hb0.trans (hn.mono hb0.size)
  clear hn
  cases z3
  · have e0 : false = R0 := by rw [← HR0.out]; unfold crR; (try rw [Hr1.out]); (try rw [Hr2.out]); (try rw [Hz3.out]); all_goals first | rfl | simp
    subst e0
    go_wp2
    first | go_ret | go_ret2
    exact ⟨by first | rfl | simp, hb0⟩
  · have c1_2 : U3.cell? ⟨w.heap.size, 2, none⟩ = some (.int .i64 bx) := k1.cell 2
    have c1_3 : U3.cell? ⟨w.heap.size, 3, none⟩ = some (.int .i64 b_y) := k1.cell 3
    have l1 := k1.lt
    go_wp2_with fail
    clear c1_2 c1_3 l1
    obtain ⟨r4, hr4⟩ : ∃ o_o : Int, crfx bx b_y = o_o := ⟨_, rfl⟩
    have Hr4 := Lib.hid hr4
    clear hr4
    obtain ⟨r5, hr5⟩ : ∃ o_o : Int, crfy bx b_y = o_o := ⟨_, rfl⟩
    have Hr5 := Lib.hid hr5
    clear hr5
    refine (cref_is bx b_y r4 r5 Hr4.out Hr5.out _ibx _ib_y  _).mono ?_
    rintro e U4 ⟨rfl, hn⟩
    clear k1
    replace hb0 := hb0.trans (hn.mono hb0.size)
    clear hn
    go_wp2_with fail
    obtain ⟨z6, hz6⟩ : ∃ o_o : Bool, rp r4 r5 = o_o := ⟨_, rfl⟩
    have Hz6 := Lib.hid hz6
    clear hz6
    refine (rRight_v r4 r5 z6 Hz6.out _).mono ?_
    rintro e U5 ⟨rfl, hn⟩
    replace hb0 := hb0.trans (hn.mono hb0.size)
    clear hn
    have e0 : z6 = R0 := by rw [← HR0.out]; unfold crR; (try rw [Hr1.out]); (try rw [Hr2.out]); (try rw [Hz3.out]); (try rw [Hr4.out]); (try rw [Hr5.out]); (try rw [Hz6.out]); all_goals first | rfl | simp
    subst e0
    go_wp2
    first | go_ret | go_ret2
    exact ⟨by first | rfl | simp, hb0⟩
end Go.Proofs.Ytlcbomjdbdgbmaa
