/- The walks of package cross: Spot.Cmp, Whole, side. Conditions: the numbers are ints and numbers of 256 bits. -/
import Derived.Test.YtlcbomjdbdgbmaaCr2
namespace Go.Proofs.Ytlcbomjdbdgbmaa
open Go.RowKit

def spC (x : Int) (y : Int) (v : Int) (x2 : Int) (y2 : Int) (v2 : Int) : Int := (bif (spR x y v) then (bif (spR x2 y2 v2) then (or2 (cmpI (mulv x v2) (mulv x2 v)) (cmpI (mulv y v2) (mulv y2 v))) else 0) else 0)

theorem spC_in (x : Int) (y : Int) (v : Int) (x2 : Int) (y2 : Int) (v2 : Int) (_ix : InI x) (_iy : InI y) (_iv : InI v) (_ix2 : InI x2) (_iy2 : InI y2) (_iv2 : InI v2) : In64 (spC x y v x2 y2 v2) := by
  unfold spC
  exact (cond_64 (cond_64 (or2_64 (cmpI_64 _ _) (cmpI_64 _ _)) i64_0) i64_0)

set_option maxRecDepth 100000 in
set_option maxHeartbeats 4000000 in

theorem SpCmp_is (x : Int) (y : Int) (v : Int) (x2 : Int) (y2 : Int) (v2 : Int)  (R0 : Int) (hR0 : spC x y v x2 y2 v2 = R0) (_ix : InI x) (_iy : InI y) (_iv : InI v) (_ix2 : InI x2) (_iy2 : InI y2) (_iv2 : InI v2)  (w : World)  :
    Calls Try.prog 58 #[.agg #[.int .u64 (wd0 x), .int .u64 (wd1 x), .int .u64 (wd2 x), .int .u64 (wd3 x), .int .u64 (wd0 y), .int .u64 (wd1 y), .int .u64 (wd2 y), .int .u64 (wd3 y), .int .u64 (wd0 v), .int .u64 (wd1 v), .int .u64 (wd2 v), .int .u64 (wd3 v)], .agg #[.int .u64 (wd0 x2), .int .u64 (wd1 x2), .int .u64 (wd2 x2), .int .u64 (wd3 x2), .int .u64 (wd0 y2), .int .u64 (wd1 y2), .int .u64 (wd2 y2), .int .u64 (wd3 y2), .int .u64 (wd0 v2), .int .u64 (wd1 v2), .int .u64 (wd2 v2), .int .u64 (wd3 v2)]] w fun e w' => e = .returned (.int .i64 R0) ∧ Below w.heap.size w w' := by

  have HR0 := Lib.hid hR0
  clear hR0
  go_enter Try.func58, Try.ntmps58
  go_wp2_with fail
  first | refine calls_w ?_ | refine name_world ?_ | refine list_world ?_ | refine post_world ?_
  intro V1 hV1
  have hn : Below w.heap.size w V1 := by rw [hV1]; exact below_a2 _ _ _
  have nhb0 := hn
  have k1 : Blk V1 w.heap.size #[.int .u64 (wd0 x), .int .u64 (wd1 x), .int .u64 (wd2 x), .int .u64 (wd3 x), .int .u64 (wd0 y), .int .u64 (wd1 y), .int .u64 (wd2 y), .int .u64 (wd3 y), .int .u64 (wd0 v), .int .u64 (wd1 v), .int .u64 (wd2 v), .int .u64 (wd3 v)] 67 := by rw [hV1]; exact ((Blk.new _ _ _).alloc _)
  have k2 : Blk V1 (w.heap.size + 1) #[.int .u64 (wd0 x2), .int .u64 (wd1 x2), .int .u64 (wd2 x2), .int .u64 (wd3 x2), .int .u64 (wd0 y2), .int .u64 (wd1 y2), .int .u64 (wd2 y2), .int .u64 (wd3 y2), .int .u64 (wd0 v2), .int .u64 (wd1 v2), .int .u64 (wd2 v2), .int .u64 (wd3 v2)] 67 := by rw [hV1]; exact (Blk.new1 _ _ _ _)
  clear hV1
  have hb0 := nhb0
  clear nhb0
  obtain ⟨z1, hz1⟩ : ∃ o_o : Bool, spR x y v = o_o := ⟨_, rfl⟩
  have Hz1 := Lib.hid hz1
  clear hz1
  refine (SpRight_is x y v z1 Hz1.out _ix _iy _iv  _).mono ?_
  rintro e U2 ⟨rfl, hn⟩
  replace k1 := k1.of hn
  replace k2 := k2.of hn
  replace hb0 := hb0.trans (hn.mono hb0.size)
  clear hn
  cases z1
  · have e0 : 0 = R0 := by rw [← HR0.out]; unfold spC; (try rw [Hz1.out]); all_goals first | rfl | simp
    subst e0
    go_wp2
    first | go_ret | go_ret2
    exact ⟨by first | rfl | simp, hb0⟩
  · have c2_0 : U2.cell? ⟨(w.heap.size + 1), 0, none⟩ = some (.int .u64 (wd0 x2)) := k2.cell 0
    have c2_1 : U2.cell? ⟨(w.heap.size + 1), 1, none⟩ = some (.int .u64 (wd1 x2)) := k2.cell 1
    have c2_2 : U2.cell? ⟨(w.heap.size + 1), 2, none⟩ = some (.int .u64 (wd2 x2)) := k2.cell 2
    have c2_3 : U2.cell? ⟨(w.heap.size + 1), 3, none⟩ = some (.int .u64 (wd3 x2)) := k2.cell 3
    have c2_4 : U2.cell? ⟨(w.heap.size + 1), 4, none⟩ = some (.int .u64 (wd0 y2)) := k2.cell 4
    have c2_5 : U2.cell? ⟨(w.heap.size + 1), 5, none⟩ = some (.int .u64 (wd1 y2)) := k2.cell 5
    have c2_6 : U2.cell? ⟨(w.heap.size + 1), 6, none⟩ = some (.int .u64 (wd2 y2)) := k2.cell 6
    have c2_7 : U2.cell? ⟨(w.heap.size + 1), 7, none⟩ = some (.int .u64 (wd3 y2)) := k2.cell 7
    have c2_8 : U2.cell? ⟨(w.heap.size + 1), 8, none⟩ = some (.int .u64 (wd0 v2)) := k2.cell 8
    have c2_9 : U2.cell? ⟨(w.heap.size + 1), 9, none⟩ = some (.int .u64 (wd1 v2)) := k2.cell 9
    have c2_10 : U2.cell? ⟨(w.heap.size + 1), 10, none⟩ = some (.int .u64 (wd2 v2)) := k2.cell 10
    have c2_11 : U2.cell? ⟨(w.heap.size + 1), 11, none⟩ = some (.int .u64 (wd3 v2)) := k2.cell 11
    have l2 := k2.lt
    go_wp2_with fail
    clear c2_0 c2_1 c2_2 c2_3 c2_4 c2_5 c2_6 c2_7 c2_8 c2_9 c2_10 c2_11 l2
    obtain ⟨z2, hz2⟩ : ∃ o_o : Bool, spR x2 y2 v2 = o_o := ⟨_, rfl⟩
    have Hz2 := Lib.hid hz2
    clear hz2
    refine (SpRight_is x2 y2 v2 z2 Hz2.out _ix2 _iy2 _iv2  _).mono ?_
    rintro e U3 ⟨rfl, hn⟩
    replace k1 := k1.of hn
    replace k2 := k2.of hn
    replace hb0 := hb0.trans (hn.mono hb0.size)
    clear hn
    cases z2
    · have e0 : 0 = R0 := by rw [← HR0.out]; unfold spC; (try rw [Hz1.out]); (try rw [Hz2.out]); all_goals first | rfl | simp
      subst e0
      go_wp2
      first | go_ret | go_ret2
      exact ⟨by first | rfl | simp, hb0⟩
    · go_wp2_with fail
      obtain ⟨r3, hr3⟩ : ∃ o_o : Int, mulv x v2 = o_o := ⟨_, rfl⟩
      have Hr3 := Lib.hid hr3
      clear hr3
      obtain ⟨r4, hr4⟩ : ∃ o_o : Int, mulv x2 v = o_o := ⟨_, rfl⟩
      have Hr4 := Lib.hid hr4
      clear hr4
      obtain ⟨r5, hr5⟩ : ∃ o_o : Int, cmpI r3 r4 = o_o := ⟨_, rfl⟩
      have Hr5 := Lib.hid hr5
      clear hr5
      obtain ⟨r6, hr6⟩ : ∃ o_o : Int, mulv y v2 = o_o := ⟨_, rfl⟩
      have Hr6 := Lib.hid hr6
      clear hr6
      have c1_0 : U3.cell? ⟨w.heap.size, 0, none⟩ = some (.int .u64 (wd0 x)) := k1.cell 0
      have c1_1 : U3.cell? ⟨w.heap.size, 1, none⟩ = some (.int .u64 (wd1 x)) := k1.cell 1
      have c1_2 : U3.cell? ⟨w.heap.size, 2, none⟩ = some (.int .u64 (wd2 x)) := k1.cell 2
      have c1_3 : U3.cell? ⟨w.heap.size, 3, none⟩ = some (.int .u64 (wd3 x)) := k1.cell 3
      have c1_4 : U3.cell? ⟨w.heap.size, 4, none⟩ = some (.int .u64 (wd0 y)) := k1.cell 4
      have c1_5 : U3.cell? ⟨w.heap.size, 5, none⟩ = some (.int .u64 (wd1 y)) := k1.cell 5
      have c1_6 : U3.cell? ⟨w.heap.size, 6, none⟩ = some (.int .u64 (wd2 y)) := k1.cell 6
      have c1_7 : U3.cell? ⟨w.heap.size, 7, none⟩ = some (.int .u64 (wd3 y)) := k1.cell 7
      have c1_8 : U3.cell? ⟨w.heap.size, 8, none⟩ = some (.int .u64 (wd0 v)) := k1.cell 8
      have c1_9 : U3.cell? ⟨w.heap.size, 9, none⟩ = some (.int .u64 (wd1 v)) := k1.cell 9
      have c1_10 : U3.cell? ⟨w.heap.size, 10, none⟩ = some (.int .u64 (wd2 v)) := k1.cell 10
      have c1_11 : U3.cell? ⟨w.heap.size, 11, none⟩ = some (.int .u64 (wd3 v)) := k1.cell 11
      have l1 := k1.lt
      have c2_0 : U3.cell? ⟨(w.heap.size + 1), 0, none⟩ = some (.int .u64 (wd0 x2)) := k2.cell 0
      have c2_1 : U3.cell? ⟨(w.heap.size + 1), 1, none⟩ = some (.int .u64 (wd1 x2)) := k2.cell 1
      have c2_2 : U3.cell? ⟨(w.heap.size + 1), 2, none⟩ = some (.int .u64 (wd2 x2)) := k2.cell 2
      have c2_3 : U3.cell? ⟨(w.heap.size + 1), 3, none⟩ = some (.int .u64 (wd3 x2)) := k2.cell 3
      have c2_4 : U3.cell? ⟨(w.heap.size + 1), 4, none⟩ = some (.int .u64 (wd0 y2)) := k2.cell 4
      have c2_5 : U3.cell? ⟨(w.heap.size + 1), 5, none⟩ = some (.int .u64 (wd1 y2)) := k2.cell 5
      have c2_6 : U3.cell? ⟨(w.heap.size + 1), 6, none⟩ = some (.int .u64 (wd2 y2)) := k2.cell 6
      have c2_7 : U3.cell? ⟨(w.heap.size + 1), 7, none⟩ = some (.int .u64 (wd3 y2)) := k2.cell 7
      have c2_8 : U3.cell? ⟨(w.heap.size + 1), 8, none⟩ = some (.int .u64 (wd0 v2)) := k2.cell 8
      have c2_9 : U3.cell? ⟨(w.heap.size + 1), 9, none⟩ = some (.int .u64 (wd1 v2)) := k2.cell 9
      have c2_10 : U3.cell? ⟨(w.heap.size + 1), 10, none⟩ = some (.int .u64 (wd2 v2)) := k2.cell 10
      have c2_11 : U3.cell? ⟨(w.heap.size + 1), 11, none⟩ = some (.int .u64 (wd3 v2)) := k2.cell 11
      have l2 := k2.lt
      have Kk1 := Lib.hid k1
      clear k1
      have Kk2 := Lib.hid k2
      clear k2
      refine wp_region_up U3.heap.size 20 [(true, 0), (true, 1), (true, 2), (true, 3), (true, 5), (true, 6), (true, 7), (true, 8), (true, 11), (true, 12), (true, 13), (true, 14), (true, 16), (true, 17), (true, 18), (true, 19), (false, 4), (false, 9), (false, 10), (false, 15)] (by kernel_rfl) (by kernel_rfl) (fun _ _ d _ _ h => by cases d <;> exact h) ?_
      have hb : Below U3.heap.size U3 U3.drew := (Below.refl _ _).drew
      iterate 16
        refine wpS_takeL rfl rfl ?_
        go_big_quiet_step (rfl)
        refine wpQuiet_nil ?_
      refine wpS_doL rfl ?_
      intro K hK
      go_wp2_with ((first | (go_at_call 106; (with_reducible refine (crtimes_is x v2 r3 Hr3.out _ix _iv2  _).mono ?_); rintro e w2 ⟨rfl, hn⟩) | (go_at_call 106; (with_reducible refine (crtimes_is x2 v r4 Hr4.out _ix2 _iv  _).mono ?_); rintro e w2 ⟨rfl, hn⟩) | (go_at_call 107; (with_reducible refine (Cmp_v r3 r4 r5 Hr5.out (Hr3.out ▸ mulv_in x v2) (Hr4.out ▸ mulv_in x2 v) _).mono ?_); rintro e w2 ⟨rfl, hn⟩) | (go_at_call 106; (with_reducible refine (crtimes_is y v2 r6 Hr6.out _iy _iv2  _).mono ?_); rintro e w2 ⟨rfl, hn⟩)))
      replace hb := hb.trans (hn.mono hb.size)
      refine hK.out _ _ (up_iff.2 hb) ?_
      clear hK K
      clear hn
      refine wpS_doL rfl ?_
      intro K hK
      go_wp2_with ((first | (go_at_call 106; (with_reducible refine (crtimes_is x v2 r3 Hr3.out _ix _iv2  _).mono ?_); rintro e w2 ⟨rfl, hn⟩) | (go_at_call 106; (with_reducible refine (crtimes_is x2 v r4 Hr4.out _ix2 _iv  _).mono ?_); rintro e w2 ⟨rfl, hn⟩) | (go_at_call 107; (with_reducible refine (Cmp_v r3 r4 r5 Hr5.out (Hr3.out ▸ mulv_in x v2) (Hr4.out ▸ mulv_in x2 v) _).mono ?_); rintro e w2 ⟨rfl, hn⟩) | (go_at_call 106; (with_reducible refine (crtimes_is y v2 r6 Hr6.out _iy _iv2  _).mono ?_); rintro e w2 ⟨rfl, hn⟩)))
      replace hb := hb.trans (hn.mono hb.size)
      refine hK.out _ _ (up_iff.2 hb) ?_
      clear hK K
      clear hn
      refine wpS_doL rfl ?_
      intro K hK
      go_wp2_with ((first | (go_at_call 106; (with_reducible refine (crtimes_is x v2 r3 Hr3.out _ix _iv2  _).mono ?_); rintro e w2 ⟨rfl, hn⟩) | (go_at_call 106; (with_reducible refine (crtimes_is x2 v r4 Hr4.out _ix2 _iv  _).mono ?_); rintro e w2 ⟨rfl, hn⟩) | (go_at_call 107; (with_reducible refine (Cmp_v r3 r4 r5 Hr5.out (Hr3.out ▸ mulv_in x v2) (Hr4.out ▸ mulv_in x2 v) _).mono ?_); rintro e w2 ⟨rfl, hn⟩) | (go_at_call 106; (with_reducible refine (crtimes_is y v2 r6 Hr6.out _iy _iv2  _).mono ?_); rintro e w2 ⟨rfl, hn⟩)))
      replace hb := hb.trans (hn.mono hb.size)
      refine hK.out _ _ (up_iff.2 hb) ?_
      clear hK K
      clear hn
      refine wpS_doL rfl ?_
      intro K hK
      go_wp2_with ((first | (go_at_call 106; (with_reducible refine (crtimes_is x v2 r3 Hr3.out _ix _iv2  _).mono ?_); rintro e w2 ⟨rfl, hn⟩) | (go_at_call 106; (with_reducible refine (crtimes_is x2 v r4 Hr4.out _ix2 _iv  _).mono ?_); rintro e w2 ⟨rfl, hn⟩) | (go_at_call 107; (with_reducible refine (Cmp_v r3 r4 r5 Hr5.out (Hr3.out ▸ mulv_in x v2) (Hr4.out ▸ mulv_in x2 v) _).mono ?_); rintro e w2 ⟨rfl, hn⟩) | (go_at_call 106; (with_reducible refine (crtimes_is y v2 r6 Hr6.out _iy _iv2  _).mono ?_); rintro e w2 ⟨rfl, hn⟩)))
      replace hb := hb.trans (hn.mono hb.size)
      refine hK.out _ _ (up_iff.2 hb) ?_
      clear hK K
      clear hn
      refine wpS_nil ?_
      simp only [List.drop_succ_cons, List.drop_zero]
      first | refine calls_w ?_ | refine name_world ?_ | refine list_world ?_ | refine post_world ?_
      intro U4 hU4
      first | subst hU4 | (rw [← hU4] at hb; clear hU4)
      clear c1_0 c1_1 c1_2 c1_3 c1_4 c1_5 c1_6 c1_7 c1_8 c1_9 c1_10 c1_11 l1 c2_0 c2_1 c2_2 c2_3 c2_4 c2_5 c2_6 c2_7 c2_8 c2_9 c2_10 c2_11 l2
      have k1 := Kk1.out.of hb
      clear Kk1
      have k2 := Kk2.out.of hb
      clear Kk2
      replace hb0 := hb0.trans (hb.mono hb0.size)
      clear hb
      go_wp2_with fail
      obtain ⟨r7, hr7⟩ : ∃ o_o : Int, mulv y2 v = o_o := ⟨_, rfl⟩
      have Hr7 := Lib.hid hr7
      clear hr7
      refine (crtimes_is y2 v r7 Hr7.out _iy2 _iv  _).mono ?_
      rintro e U5 ⟨rfl, hn⟩
      clear k1 k2
      replace hb0 := hb0.trans (hn.mono hb0.size)
      clear hn
      go_wp2_with fail
      obtain ⟨r8, hr8⟩ : ∃ o_o : Int, cmpI r6 r7 = o_o := ⟨_, rfl⟩
      have Hr8 := Lib.hid hr8
      clear hr8
      refine (Cmp_v r6 r7 r8 Hr8.out (Hr6.out ▸ mulv_in y v2) (Hr7.out ▸ mulv_in y2 v) _).mono ?_
      rintro e U6 ⟨rfl, hn⟩
      replace hb0 := hb0.trans (hn.mono hb0.size)
      clear hn
      go_wp2_with fail
      first | refine calls_w ?_ | refine name_world ?_ | refine list_world ?_ | refine post_world ?_
      intro V7 hV7
      have D1 := Lib.hid hb0.size
      have hn : Below U6.heap.size U6 V7 := by rw [hV7]; exact below_a1 _ _
      have nhb0 := hb0.trans (hn.mono hb0.size)
      clear hn
      have k3 : Blk V7 U6.heap.size #[.int .i64 r5, .int .i64 r8] 3 := by rw [hV7]; exact (Blk.new _ _ _)
      clear hb0
      clear hV7
      have hb0 := nhb0
      clear nhb0
      obtain ⟨r9, hr9⟩ : ∃ o_o : Int, or2 r5 r8 = o_o := ⟨_, rfl⟩
      have Hr9 := Lib.hid hr9
      clear hr9
      refine (Or2_v r5 r8 r9 Hr9.out k3).mono ?_
      rintro e U8 ⟨rfl, hn⟩
      clear k3
      replace hb0 := hb0.trans (hn.mono hb0.size)
      clear hn
      have e0 : r9 = R0 := by rw [← HR0.out]; unfold spC; (try rw [Hz1.out]); (try rw [Hz2.out]); (try rw [Hr3.out]); (try rw [Hr4.out]); (try rw [Hr5.out]); (try rw [Hr6.out]); (try rw [Hr7.out]); (try rw [Hr8.out]); (try rw [Hr9.out]); all_goals first | rfl | simp
      subst e0
      go_wp2
      first | go_ret | go_ret2
      exact ⟨by first | rfl | simp, hb0⟩

def whx (x : Int) (y : Int) (v : Int) : Int := (bif (spR x y v) then (bif (((dvr x v).sign) == 0) then (bif (((dvr y v).sign) == 0) then (smk (dvq x v)) else 0) else 0) else 0)

def why (x : Int) (y : Int) (v : Int) : Int := (bif (spR x y v) then (bif (((dvr x v).sign) == 0) then (bif (((dvr y v).sign) == 0) then (smk (dvq y v)) else 0) else 0) else 0)

def whk (x : Int) (y : Int) (v : Int) : Bool := (bif (spR x y v) then (bif (((dvr x v).sign) == 0) then (bif (((dvr y v).sign) == 0) then true else false) else false) else false)

theorem whx_in (x : Int) (y : Int) (v : Int) (_ix : InI x) (_iy : InI y) (_iv : InI v) : In64 (whx x y v) := by
  unfold whx
  exact (cond_64 (cond_64 (cond_64 (smk_64 _) i64_0) i64_0) i64_0)

theorem why_in (x : Int) (y : Int) (v : Int) (_ix : InI x) (_iy : InI y) (_iv : InI v) : In64 (why x y v) := by
  unfold why
  exact (cond_64 (cond_64 (cond_64 (smk_64 _) i64_0) i64_0) i64_0)

set_option maxRecDepth 100000 in
set_option maxHeartbeats 4000000 in

theorem Whole_is (x : Int) (y : Int) (v : Int)  (R0 : Int) (R1 : Int) (R2 : Bool) (hR0 : whx x y v = R0) (hR1 : why x y v = R1) (hR2 : whk x y v = R2) (_ix : InI x) (_iy : InI y) (_iv : InI v)  (w : World)  :
    Calls Try.prog 60 #[.agg #[.int .u64 (wd0 x), .int .u64 (wd1 x), .int .u64 (wd2 x), .int .u64 (wd3 x), .int .u64 (wd0 y), .int .u64 (wd1 y), .int .u64 (wd2 y), .int .u64 (wd3 y), .int .u64 (wd0 v), .int .u64 (wd1 v), .int .u64 (wd2 v), .int .u64 (wd3 v)]] w fun e w' => e = .returned (.tuple #[.agg #[.int .i64 R0, .int .i64 R1], .bool R2]) ∧ Below w.heap.size w w' := by

  have HR0 := Lib.hid hR0
  clear hR0
  have HR1 := Lib.hid hR1
  clear hR1
  have HR2 := Lib.hid hR2
  clear hR2
  go_enter Try.func60, Try.ntmps60
  go_wp2_with fail
  first | refine calls_w ?_ | refine name_world ?_ | refine list_world ?_ | refine post_world ?_
  intro V1 hV1
  have hn : Below w.heap.size w V1 := by rw [hV1]; exact below_a2 _ _ _
  have nhb0 := hn
  have k1 : Blk V1 w.heap.size #[.int .u64 (wd0 x), .int .u64 (wd1 x), .int .u64 (wd2 x), .int .u64 (wd3 x), .int .u64 (wd0 y), .int .u64 (wd1 y), .int .u64 (wd2 y), .int .u64 (wd3 y), .int .u64 (wd0 v), .int .u64 (wd1 v), .int .u64 (wd2 v), .int .u64 (wd3 v)] 67 := by rw [hV1]; exact ((Blk.new _ _ _).alloc _)
  have k2 : Blk V1 (w.heap.size + 1) #[.int .i64 0, .int .i64 0] 24 := by rw [hV1]; exact (Blk.new1 _ _ _ _)
  clear hV1
  have hb0 := nhb0
  clear nhb0
  obtain ⟨z1, hz1⟩ : ∃ o_o : Bool, spR x y v = o_o := ⟨_, rfl⟩
  have Hz1 := Lib.hid hz1
  clear hz1
  refine (SpRight_is x y v z1 Hz1.out _ix _iy _iv  _).mono ?_
  rintro e U2 ⟨rfl, hn⟩
  replace k1 := k1.of hn
  replace k2 := k2.of hn
  replace hb0 := hb0.trans (hn.mono hb0.size)
  clear hn
  cases z1
  · have c2_0 : U2.cell? ⟨(w.heap.size + 1), 0, none⟩ = some (.int .i64 0) := k2.cell 0
    have c2_1 : U2.cell? ⟨(w.heap.size + 1), 1, none⟩ = some (.int .i64 0) := k2.cell 1
    have f2_0 := k2.free 0
    have f2_1 := k2.free 1
    have l2 := k2.lt
    have e0 : 0 = R0 := by rw [← HR0.out]; unfold whx; (try rw [Hz1.out]); all_goals first | rfl | simp
    have e1 : 0 = R1 := by rw [← HR1.out]; unfold why; (try rw [Hz1.out]); all_goals first | rfl | simp
    have e2 : false = R2 := by rw [← HR2.out]; unfold whk; (try rw [Hz1.out]); all_goals first | rfl | simp
    subst e0
    subst e1
    subst e2
    go_wp2
    clear c2_0 c2_1 f2_0 f2_1 l2
    first | refine post_world ?_
    intro V3 hV3
    have D1 := Lib.hid k1.lt
    have D2 := Lib.hid k2.lt
    have D3 := Lib.hid hb0.size
    clear k1
    have nk2 : Blk V3 (w.heap.size + 1) #[.int .i64 0, .int .i64 0] 24 := by rw [hV3]; exact (blk_full _ [.int .i64 0, .int .i64 0] k2 rfl)
    have nhb0 : Below w.heap.size w V3 := by rw [hV3]; exact (blw_setL hb0 (by omega) 0 [.int .i64 0, .int .i64 0])
    clear k2
    clear hb0
    clear hV3
    have k2 := nk2
    clear nk2
    have hb0 := nhb0
    clear nhb0
    have g2_0 : V3.cell? ⟨(w.heap.size + 1), 0, none⟩ = some (.int .i64 0) := k2.cell 0
    have g2_1 : V3.cell? ⟨(w.heap.size + 1), 1, none⟩ = some (.int .i64 0) := k2.cell 1
    clear k2
    simp [bodyPost, results, Try.results60, go_sem, g2_0, g2_1]
    first | exact hb0 | exact ⟨rfl, hb0⟩
  · have c1_0 : U2.cell? ⟨w.heap.size, 0, none⟩ = some (.int .u64 (wd0 x)) := k1.cell 0
    have c1_1 : U2.cell? ⟨w.heap.size, 1, none⟩ = some (.int .u64 (wd1 x)) := k1.cell 1
    have c1_2 : U2.cell? ⟨w.heap.size, 2, none⟩ = some (.int .u64 (wd2 x)) := k1.cell 2
    have c1_3 : U2.cell? ⟨w.heap.size, 3, none⟩ = some (.int .u64 (wd3 x)) := k1.cell 3
    have c1_8 : U2.cell? ⟨w.heap.size, 8, none⟩ = some (.int .u64 (wd0 v)) := k1.cell 8
    have c1_9 : U2.cell? ⟨w.heap.size, 9, none⟩ = some (.int .u64 (wd1 v)) := k1.cell 9
    have c1_10 : U2.cell? ⟨w.heap.size, 10, none⟩ = some (.int .u64 (wd2 v)) := k1.cell 10
    have c1_11 : U2.cell? ⟨w.heap.size, 11, none⟩ = some (.int .u64 (wd3 v)) := k1.cell 11
    have l1 := k1.lt
    go_wp2_with fail
    clear c1_0 c1_1 c1_2 c1_3 c1_8 c1_9 c1_10 c1_11 l1
    obtain ⟨r2, hr2⟩ : ∃ o_o : Int, dvq x v = o_o := ⟨_, rfl⟩
    have Hr2 := Lib.hid hr2
    clear hr2
    obtain ⟨r3, hr3⟩ : ∃ o_o : Int, dvr x v = o_o := ⟨_, rfl⟩
    have Hr3 := Lib.hid hr3
    clear hr3
    obtain ⟨z4, hz4⟩ : ∃ o_o : Bool, dvOk x v = o_o := ⟨_, rfl⟩
    have Hz4 := Lib.hid hz4
    clear hz4
    refine (Div_v x v r2 r3 z4 Hr2.out Hr3.out Hz4.out _ix _iv _).mono ?_
    rintro e U4 ⟨rfl, hn⟩
    replace k1 := k1.of hn
    replace k2 := k2.of hn
    replace hb0 := hb0.trans (hn.mono hb0.size)
    clear hn
    have c1_4 : U4.cell? ⟨w.heap.size, 4, none⟩ = some (.int .u64 (wd0 y)) := k1.cell 4
    have c1_5 : U4.cell? ⟨w.heap.size, 5, none⟩ = some (.int .u64 (wd1 y)) := k1.cell 5
    have c1_6 : U4.cell? ⟨w.heap.size, 6, none⟩ = some (.int .u64 (wd2 y)) := k1.cell 6
    have c1_7 : U4.cell? ⟨w.heap.size, 7, none⟩ = some (.int .u64 (wd3 y)) := k1.cell 7
    have c1_8 : U4.cell? ⟨w.heap.size, 8, none⟩ = some (.int .u64 (wd0 v)) := k1.cell 8
    have c1_9 : U4.cell? ⟨w.heap.size, 9, none⟩ = some (.int .u64 (wd1 v)) := k1.cell 9
    have c1_10 : U4.cell? ⟨w.heap.size, 10, none⟩ = some (.int .u64 (wd2 v)) := k1.cell 10
    have c1_11 : U4.cell? ⟨w.heap.size, 11, none⟩ = some (.int .u64 (wd3 v)) := k1.cell 11
    have l1 := k1.lt
    go_wp2_with fail
    clear c1_4 c1_5 c1_6 c1_7 c1_8 c1_9 c1_10 c1_11 l1
    first | refine calls_w ?_ | refine name_world ?_ | refine list_world ?_ | refine post_world ?_
    intro V5 hV5
    clear k1
    have D4 := Lib.hid k2.lt
    have D5 := Lib.hid hb0.size
    have hn : Below U4.heap.size U4 V5 := by rw [hV5]; exact below_a2 _ _ _
    have nk2 := k2.of hn
    have nhb0 := hb0.trans (hn.mono hb0.size)
    clear hn
    have k3 : Blk V5 U4.heap.size #[.int .u64 (wd0 r2), .int .u64 (wd1 r2), .int .u64 (wd2 r2), .int .u64 (wd3 r2)] 35 := by rw [hV5]; exact ((Blk.new _ _ _).alloc _)
    have k4 : Blk V5 (U4.heap.size + 1) #[.int .u64 (wd0 r3), .int .u64 (wd1 r3), .int .u64 (wd2 r3), .int .u64 (wd3 r3)] 35 := by rw [hV5]; exact (Blk.new1 _ _ _ _)
    clear k2
    clear hb0
    clear hV5
    have k2 := nk2
    clear nk2
    have hb0 := nhb0
    clear nhb0
    obtain ⟨r5, hr5⟩ : ∃ o_o : Int, dvq y v = o_o := ⟨_, rfl⟩
    have Hr5 := Lib.hid hr5
    clear hr5
    obtain ⟨r6, hr6⟩ : ∃ o_o : Int, dvr y v = o_o := ⟨_, rfl⟩
    have Hr6 := Lib.hid hr6
    clear hr6
    obtain ⟨z7, hz7⟩ : ∃ o_o : Bool, dvOk y v = o_o := ⟨_, rfl⟩
    have Hz7 := Lib.hid hz7
    clear hz7
    refine (Div_v y v r5 r6 z7 Hr5.out Hr6.out Hz7.out _iy _iv _).mono ?_
    rintro e U6 ⟨rfl, hn⟩
    replace k2 := k2.of hn
    replace k3 := k3.of hn
    replace k4 := k4.of hn
    replace hb0 := hb0.trans (hn.mono hb0.size)
    clear hn
    have c4_0 : U6.cell? ⟨(U4.heap.size + 1), 0, none⟩ = some (.int .u64 (wd0 r3)) := k4.cell 0
    have c4_1 : U6.cell? ⟨(U4.heap.size + 1), 1, none⟩ = some (.int .u64 (wd1 r3)) := k4.cell 1
    have c4_2 : U6.cell? ⟨(U4.heap.size + 1), 2, none⟩ = some (.int .u64 (wd2 r3)) := k4.cell 2
    have c4_3 : U6.cell? ⟨(U4.heap.size + 1), 3, none⟩ = some (.int .u64 (wd3 r3)) := k4.cell 3
    have l4 := k4.lt
    have l4_0 : U4.heap.size < U6.heap.size := by have := k4.lt; omega
    go_wp2_with fail
    clear c4_0 c4_1 c4_2 c4_3 l4 l4_0
    first | refine calls_w ?_ | refine name_world ?_ | refine list_world ?_ | refine post_world ?_
    intro V7 hV7
    clear k4
    have D6 := Lib.hid k2.lt
    have D7 := Lib.hid k3.lt
    have D8 := Lib.hid hb0.size
    have hn : Below U6.heap.size U6 V7 := by rw [hV7]; exact below_a2 _ _ _
    have nk2 := k2.of hn
    have nk3 := k3.of hn
    have nhb0 := hb0.trans (hn.mono hb0.size)
    clear hn
    have k5 : Blk V7 U6.heap.size #[.int .u64 (wd0 r5), .int .u64 (wd1 r5), .int .u64 (wd2 r5), .int .u64 (wd3 r5)] 35 := by rw [hV7]; exact ((Blk.new _ _ _).alloc _)
    have k6 : Blk V7 (U6.heap.size + 1) #[.int .u64 (wd0 r6), .int .u64 (wd1 r6), .int .u64 (wd2 r6), .int .u64 (wd3 r6)] 35 := by rw [hV7]; exact (Blk.new1 _ _ _ _)
    clear k2 k3
    clear hb0
    clear hV7
    have k2 := nk2
    clear nk2
    have k3 := nk3
    clear nk3
    have hb0 := nhb0
    clear nhb0
    obtain ⟨r8, hr8⟩ : ∃ o_o : Int, r3.sign = o_o := ⟨_, rfl⟩
    have Hr8 := Lib.hid hr8
    clear hr8
    refine (Sign_v r3 r8 Hr8.out (Hr3.out ▸ dvr_in _ix _iv) _).mono ?_
    rintro e U8 ⟨rfl, hn⟩
    replace k2 := k2.of hn
    replace k3 := k3.of hn
    replace k5 := k5.of hn
    replace k6 := k6.of hn
    replace hb0 := hb0.trans (hn.mono hb0.size)
    clear hn
    obtain ⟨z9, hz9⟩ : ∃ o_o : Bool, (r8 == 0) = o_o := ⟨_, rfl⟩
    cases z9
    · have nz9 : ¬ r8 = 0 := by simpa using hz9
      have c2_0 : U8.cell? ⟨(w.heap.size + 1), 0, none⟩ = some (.int .i64 0) := k2.cell 0
      have c2_1 : U8.cell? ⟨(w.heap.size + 1), 1, none⟩ = some (.int .i64 0) := k2.cell 1
      have f2_0 := k2.free 0
      have f2_1 := k2.free 1
      have l2 := k2.lt
      have e0 : 0 = R0 := by rw [← HR0.out]; unfold whx; (try rw [Hz1.out]); (try rw [Hr2.out]); (try rw [Hr3.out]); (try rw [Hz4.out]); (try rw [Hr5.out]); (try rw [Hr6.out]); (try rw [Hz7.out]); (try rw [Hr8.out]); (try rw [hz9]); all_goals first | rfl | simp
      have e1 : 0 = R1 := by rw [← HR1.out]; unfold why; (try rw [Hz1.out]); (try rw [Hr2.out]); (try rw [Hr3.out]); (try rw [Hz4.out]); (try rw [Hr5.out]); (try rw [Hr6.out]); (try rw [Hz7.out]); (try rw [Hr8.out]); (try rw [hz9]); all_goals first | rfl | simp
      have e2 : false = R2 := by rw [← HR2.out]; unfold whk; (try rw [Hz1.out]); (try rw [Hr2.out]); (try rw [Hr3.out]); (try rw [Hz4.out]); (try rw [Hr5.out]); (try rw [Hr6.out]); (try rw [Hz7.out]); (try rw [Hr8.out]); (try rw [hz9]); all_goals first | rfl | simp
      subst e0
      subst e1
      subst e2
      go_wp2
      clear c2_0 c2_1 f2_0 f2_1 l2
      first | refine post_world ?_
      intro V9 hV9
      clear k6
      have D9 := Lib.hid k2.lt
      have D10 := Lib.hid k3.lt
      have D11 := Lib.hid k5.lt
      have D12 := Lib.hid hb0.size
      clear k3 k5
      have nk2 : Blk V9 (w.heap.size + 1) #[.int .i64 0, .int .i64 0] 24 := by rw [hV9]; exact (blk_full _ [.int .i64 0, .int .i64 0] k2 rfl)
      have nhb0 : Below w.heap.size w V9 := by rw [hV9]; exact (blw_setL hb0 (by omega) 0 [.int .i64 0, .int .i64 0])
      clear k2
      clear hb0
      clear hV9
      have k2 := nk2
      clear nk2
      have hb0 := nhb0
      clear nhb0
      have g2_0 : V9.cell? ⟨(w.heap.size + 1), 0, none⟩ = some (.int .i64 0) := k2.cell 0
      have g2_1 : V9.cell? ⟨(w.heap.size + 1), 1, none⟩ = some (.int .i64 0) := k2.cell 1
      clear k2
      simp [bodyPost, results, Try.results60, go_sem, g2_0, g2_1]
      first | exact hb0 | exact ⟨rfl, hb0⟩
    · obtain rfl : r8 = 0 := by simpa using hz9
      clear hz9
      have c6_0 : U8.cell? ⟨(U6.heap.size + 1), 0, none⟩ = some (.int .u64 (wd0 r6)) := k6.cell 0
      have c6_1 : U8.cell? ⟨(U6.heap.size + 1), 1, none⟩ = some (.int .u64 (wd1 r6)) := k6.cell 1
      have c6_2 : U8.cell? ⟨(U6.heap.size + 1), 2, none⟩ = some (.int .u64 (wd2 r6)) := k6.cell 2
      have c6_3 : U8.cell? ⟨(U6.heap.size + 1), 3, none⟩ = some (.int .u64 (wd3 r6)) := k6.cell 3
      have l6 := k6.lt
      go_wp2_with fail
      clear c6_0 c6_1 c6_2 c6_3 l6
      obtain ⟨r10, hr10⟩ : ∃ o_o : Int, r6.sign = o_o := ⟨_, rfl⟩
      have Hr10 := Lib.hid hr10
      clear hr10
      refine (Sign_v r6 r10 Hr10.out (Hr6.out ▸ dvr_in _iy _iv) _).mono ?_
      rintro e U10 ⟨rfl, hn⟩
      clear k6
      replace k2 := k2.of hn
      replace k3 := k3.of hn
      replace k5 := k5.of hn
      replace hb0 := hb0.trans (hn.mono hb0.size)
      clear hn
      obtain ⟨z11, hz11⟩ : ∃ o_o : Bool, (r10 == 0) = o_o := ⟨_, rfl⟩
      cases z11
      · have nz11 : ¬ r10 = 0 := by simpa using hz11
        have c2_0 : U10.cell? ⟨(w.heap.size + 1), 0, none⟩ = some (.int .i64 0) := k2.cell 0
        have c2_1 : U10.cell? ⟨(w.heap.size + 1), 1, none⟩ = some (.int .i64 0) := k2.cell 1
        have f2_0 := k2.free 0
        have f2_1 := k2.free 1
        have l2 := k2.lt
        have e0 : 0 = R0 := by rw [← HR0.out]; unfold whx; (try rw [Hz1.out]); (try rw [Hr2.out]); (try rw [Hr3.out]); (try rw [Hz4.out]); (try rw [Hr5.out]); (try rw [Hr6.out]); (try rw [Hz7.out]); (try rw [Hr8.out]); (try rw [Hr10.out]); (try rw [hz11]); all_goals first | rfl | simp
        have e1 : 0 = R1 := by rw [← HR1.out]; unfold why; (try rw [Hz1.out]); (try rw [Hr2.out]); (try rw [Hr3.out]); (try rw [Hz4.out]); (try rw [Hr5.out]); (try rw [Hr6.out]); (try rw [Hz7.out]); (try rw [Hr8.out]); (try rw [Hr10.out]); (try rw [hz11]); all_goals first | rfl | simp
        have e2 : false = R2 := by rw [← HR2.out]; unfold whk; (try rw [Hz1.out]); (try rw [Hr2.out]); (try rw [Hr3.out]); (try rw [Hz4.out]); (try rw [Hr5.out]); (try rw [Hr6.out]); (try rw [Hz7.out]); (try rw [Hr8.out]); (try rw [Hr10.out]); (try rw [hz11]); all_goals first | rfl | simp
        subst e0
        subst e1
        subst e2
        go_wp2
        clear c2_0 c2_1 f2_0 f2_1 l2
        first | refine post_world ?_
        intro V11 hV11
        have D13 := Lib.hid k2.lt
        have D14 := Lib.hid k3.lt
        have D15 := Lib.hid k5.lt
        have D16 := Lib.hid hb0.size
        clear k3 k5
        have nk2 : Blk V11 (w.heap.size + 1) #[.int .i64 0, .int .i64 0] 24 := by rw [hV11]; exact (blk_full _ [.int .i64 0, .int .i64 0] k2 rfl)
        have nhb0 : Below w.heap.size w V11 := by rw [hV11]; exact (blw_setL hb0 (by omega) 0 [.int .i64 0, .int .i64 0])
        clear k2
        clear hb0
        clear hV11
        have k2 := nk2
        clear nk2
        have hb0 := nhb0
        clear nhb0
        have g2_0 : V11.cell? ⟨(w.heap.size + 1), 0, none⟩ = some (.int .i64 0) := k2.cell 0
        have g2_1 : V11.cell? ⟨(w.heap.size + 1), 1, none⟩ = some (.int .i64 0) := k2.cell 1
        clear k2
        simp [bodyPost, results, Try.results60, go_sem, g2_0, g2_1]
        first | exact hb0 | exact ⟨rfl, hb0⟩
      · obtain rfl : r10 = 0 := by simpa using hz11
        clear hz11
        have c3_0 : U10.cell? ⟨U4.heap.size, 0, none⟩ = some (.int .u64 (wd0 r2)) := k3.cell 0
        have c3_1 : U10.cell? ⟨U4.heap.size, 1, none⟩ = some (.int .u64 (wd1 r2)) := k3.cell 1
        have c3_2 : U10.cell? ⟨U4.heap.size, 2, none⟩ = some (.int .u64 (wd2 r2)) := k3.cell 2
        have c3_3 : U10.cell? ⟨U4.heap.size, 3, none⟩ = some (.int .u64 (wd3 r2)) := k3.cell 3
        have l3 := k3.lt
        go_wp2_with fail
        clear c3_0 c3_1 c3_2 c3_3 l3
        obtain ⟨r12, hr12⟩ : ∃ o_o : Int, smk r2 = o_o := ⟨_, rfl⟩
        have Hr12 := Lib.hid hr12
        clear hr12
        obtain ⟨z13, hz13⟩ : ∃ o_o : Bool, decide (In64 r2) = o_o := ⟨_, rfl⟩
        have Hz13 := Lib.hid hz13
        clear hz13
        refine (Small_v r2 r12 z13 Hr12.out Hz13.out (Hr2.out ▸ dvq_in _ix _iv) _).mono ?_
        rintro e U12 ⟨rfl, hn⟩
        clear k3
        replace k2 := k2.of hn
        replace k5 := k5.of hn
        replace hb0 := hb0.trans (hn.mono hb0.size)
        clear hn
        have c5_0 : U12.cell? ⟨U6.heap.size, 0, none⟩ = some (.int .u64 (wd0 r5)) := k5.cell 0
        have c5_1 : U12.cell? ⟨U6.heap.size, 1, none⟩ = some (.int .u64 (wd1 r5)) := k5.cell 1
        have c5_2 : U12.cell? ⟨U6.heap.size, 2, none⟩ = some (.int .u64 (wd2 r5)) := k5.cell 2
        have c5_3 : U12.cell? ⟨U6.heap.size, 3, none⟩ = some (.int .u64 (wd3 r5)) := k5.cell 3
        have l5 := k5.lt
        go_wp2_with fail
        clear c5_0 c5_1 c5_2 c5_3 l5
        obtain ⟨r14, hr14⟩ : ∃ o_o : Int, smk r5 = o_o := ⟨_, rfl⟩
        have Hr14 := Lib.hid hr14
        clear hr14
        obtain ⟨z15, hz15⟩ : ∃ o_o : Bool, decide (In64 r5) = o_o := ⟨_, rfl⟩
        have Hz15 := Lib.hid hz15
        clear hz15
        refine (Small_v r5 r14 z15 Hr14.out Hz15.out (Hr5.out ▸ dvq_in _iy _iv) _).mono ?_
        rintro e U13 ⟨rfl, hn⟩
        clear k5
        replace k2 := k2.of hn
        replace hb0 := hb0.trans (hn.mono hb0.size)
        clear hn
        have c2_0 : U13.cell? ⟨(w.heap.size + 1), 0, none⟩ = some (.int .i64 0) := k2.cell 0
        have c2_1 : U13.cell? ⟨(w.heap.size + 1), 1, none⟩ = some (.int .i64 0) := k2.cell 1
        have f2_0 := k2.free 0
        have f2_1 := k2.free 1
        have l2 := k2.lt
        have e0 : r12 = R0 := by rw [← HR0.out]; unfold whx; (try rw [Hz1.out]); (try rw [Hr2.out]); (try rw [Hr3.out]); (try rw [Hz4.out]); (try rw [Hr5.out]); (try rw [Hr6.out]); (try rw [Hz7.out]); (try rw [Hr8.out]); (try rw [Hr10.out]); (try rw [Hr12.out]); (try rw [Hz13.out]); (try rw [Hr14.out]); (try rw [Hz15.out]); all_goals first | rfl | simp
        have e1 : r14 = R1 := by rw [← HR1.out]; unfold why; (try rw [Hz1.out]); (try rw [Hr2.out]); (try rw [Hr3.out]); (try rw [Hz4.out]); (try rw [Hr5.out]); (try rw [Hr6.out]); (try rw [Hz7.out]); (try rw [Hr8.out]); (try rw [Hr10.out]); (try rw [Hr12.out]); (try rw [Hz13.out]); (try rw [Hr14.out]); (try rw [Hz15.out]); all_goals first | rfl | simp
        have e2 : true = R2 := by rw [← HR2.out]; unfold whk; (try rw [Hz1.out]); (try rw [Hr2.out]); (try rw [Hr3.out]); (try rw [Hz4.out]); (try rw [Hr5.out]); (try rw [Hr6.out]); (try rw [Hz7.out]); (try rw [Hr8.out]); (try rw [Hr10.out]); (try rw [Hr12.out]); (try rw [Hz13.out]); (try rw [Hr14.out]); (try rw [Hz15.out]); all_goals first | rfl | simp
        subst e0
        subst e1
        subst e2
        go_wp2
        clear c2_0 c2_1 f2_0 f2_1 l2
        first | refine post_world ?_
        intro V14 hV14
        have D17 := Lib.hid k2.lt
        have D18 := Lib.hid hb0.size
        have nk2 : Blk V14 (w.heap.size + 1) #[.int .i64 r12, .int .i64 r14] 24 := by rw [hV14]; exact (blk_full _ [.int .i64 r12, .int .i64 r14] k2 rfl)
        have nhb0 : Below w.heap.size w V14 := by rw [hV14]; exact (blw_setL hb0 (by omega) 0 [.int .i64 r12, .int .i64 r14])
        clear k2
        clear hb0
        clear hV14
        have k2 := nk2
        clear nk2
        have hb0 := nhb0
        clear nhb0
        have g2_0 : V14.cell? ⟨(w.heap.size + 1), 0, none⟩ = some (.int .i64 r12) := k2.cell 0
        have g2_1 : V14.cell? ⟨(w.heap.size + 1), 1, none⟩ = some (.int .i64 r14) := k2.cell 1
        clear k2
        simp [bodyPost, results, Try.results60, go_sem, g2_0, g2_1]
        first | exact hb0 | exact ⟨rfl, hb0⟩

def sde (ax : Int) (ay : Int) (bx : Int) (b_y : Int) (x : Int) (y : Int) (v : Int) : Int := ((subv (mulv (wyx ax ay bx b_y) (subv y (mulv (lwy ax ay bx b_y) v))) (mulv (wyy ax ay bx b_y) (subv x (mulv (lwx ax ay bx b_y) v)))).sign)

theorem sde_in (ax : Int) (ay : Int) (bx : Int) (b_y : Int) (x : Int) (y : Int) (v : Int) (_iax : In64 ax) (_iay : In64 ay) (_ibx : In64 bx) (_ib_y : In64 b_y) (_ix : InI x) (_iy : InI y) (_iv : InI v) : In64 (sde ax ay bx b_y x y v) := by
  unfold sde
  exact (sign_64 _)

set_option maxRecDepth 100000 in
set_option maxHeartbeats 4000000 in

theorem crside_is (ax : Int) (ay : Int) (bx : Int) (b_y : Int) (x : Int) (y : Int) (v : Int)  (R0 : Int) (hR0 : sde ax ay bx b_y x y v = R0) (_iax : In64 ax) (_iay : In64 ay) (_ibx : In64 bx) (_ib_y : In64 b_y) (_ix : InI x) (_iy : InI y) (_iv : InI v)  (w : World)  :
    Calls Try.prog 112 #[.agg #[.int .i64 ax, .int .i64 ay, .int .i64 bx, .int .i64 b_y], .agg #[.int .u64 (wd0 x), .int .u64 (wd1 x), .int .u64 (wd2 x), .int .u64 (wd3 x), .int .u64 (wd0 y), .int .u64 (wd1 y), .int .u64 (wd2 y), .int .u64 (wd3 y), .int .u64 (wd0 v), .int .u64 (wd1 v), .int .u64 (wd2 v), .int .u64 (wd3 v)]] w fun e w' => e = .returned (.int .i64 R0) ∧ Below w.heap.size w w' := by

  have HR0 := Lib.hid hR0
  clear hR0
  go_enter Try.func112, Try.ntmps112
  go_wp2_with fail
  first | refine calls_w ?_ | refine name_world ?_ | refine list_world ?_ | refine post_world ?_
  intro V1 hV1
  have hn : Below w.heap.size w V1 := by rw [hV1]; exact below_a2 _ _ _
  have nhb0 := hn
  have k1 : Blk V1 w.heap.size #[.int .i64 ax, .int .i64 ay, .int .i64 bx, .int .i64 b_y] 50 := by rw [hV1]; exact ((Blk.new _ _ _).alloc _)
  have k2 : Blk V1 (w.heap.size + 1) #[.int .u64 (wd0 x), .int .u64 (wd1 x), .int .u64 (wd2 x), .int .u64 (wd3 x), .int .u64 (wd0 y), .int .u64 (wd1 y), .int .u64 (wd2 y), .int .u64 (wd3 y), .int .u64 (wd0 v), .int .u64 (wd1 v), .int .u64 (wd2 v), .int .u64 (wd3 v)] 67 := by rw [hV1]; exact (Blk.new1 _ _ _ _)
  clear hV1
  have hb0 := nhb0
  clear nhb0
  obtain ⟨r1, hr1⟩ : ∃ o_o : Int, lwx ax ay bx b_y = o_o := ⟨_, rfl⟩
  have Hr1 := Lib.hid hr1
  clear hr1
  obtain ⟨r2, hr2⟩ : ∃ o_o : Int, lwy ax ay bx b_y = o_o := ⟨_, rfl⟩
  have Hr2 := Lib.hid hr2
  clear hr2
  obtain ⟨r3, hr3⟩ : ∃ o_o : Int, hgx ax ay bx b_y = o_o := ⟨_, rfl⟩
  have Hr3 := Lib.hid hr3
  clear hr3
  obtain ⟨r4, hr4⟩ : ∃ o_o : Int, hgy ax ay bx b_y = o_o := ⟨_, rfl⟩
  have Hr4 := Lib.hid hr4
  clear hr4
  refine (Ends_is ax ay bx b_y r1 r2 r3 r4 Hr1.out Hr2.out Hr3.out Hr4.out _iax _iay _ibx _ib_y  _).mono ?_
  rintro e U2 ⟨rfl, hn⟩
  replace k1 := k1.of hn
  replace k2 := k2.of hn
  replace hb0 := hb0.trans (hn.mono hb0.size)
  clear hn
  have c1_0 : U2.cell? ⟨w.heap.size, 0, none⟩ = some (.int .i64 ax) := k1.cell 0
  have c1_1 : U2.cell? ⟨w.heap.size, 1, none⟩ = some (.int .i64 ay) := k1.cell 1
  have c1_2 : U2.cell? ⟨w.heap.size, 2, none⟩ = some (.int .i64 bx) := k1.cell 2
  have c1_3 : U2.cell? ⟨w.heap.size, 3, none⟩ = some (.int .i64 b_y) := k1.cell 3
  have l1 := k1.lt
  go_wp2_with fail
  clear c1_0 c1_1 c1_2 c1_3 l1
  first | refine calls_w ?_ | refine name_world ?_ | refine list_world ?_ | refine post_world ?_
  intro V3 hV3
  clear k1
  have D1 := Lib.hid k2.lt
  have D2 := Lib.hid hb0.size
  have hn : Below U2.heap.size U2 V3 := by rw [hV3]; exact below_a2 _ _ _
  have nk2 := k2.of hn
  have nhb0 := hb0.trans (hn.mono hb0.size)
  clear hn
  have k3 : Blk V3 U2.heap.size #[.int .i64 r1, .int .i64 r2] 24 := by rw [hV3]; exact ((Blk.new _ _ _).alloc _)
  have k4 : Blk V3 (U2.heap.size + 1) #[.int .i64 r3, .int .i64 r4] 24 := by rw [hV3]; exact (Blk.new1 _ _ _ _)
  clear k2
  clear hb0
  clear hV3
  have k2 := nk2
  clear nk2
  have hb0 := nhb0
  clear nhb0
  obtain ⟨r5, hr5⟩ : ∃ o_o : Int, wyx ax ay bx b_y = o_o := ⟨_, rfl⟩
  have Hr5 := Lib.hid hr5
  clear hr5
  obtain ⟨r6, hr6⟩ : ∃ o_o : Int, wyy ax ay bx b_y = o_o := ⟨_, rfl⟩
  have Hr6 := Lib.hid hr6
  clear hr6
  refine (crway_is ax ay bx b_y r5 r6 Hr5.out Hr6.out _iax _iay _ibx _ib_y  _).mono ?_
  rintro e U4 ⟨rfl, hn⟩
  clear k4
  replace k2 := k2.of hn
  replace k3 := k3.of hn
  replace hb0 := hb0.trans (hn.mono hb0.size)
  clear hn
  go_wp2_with fail
  first | refine calls_w ?_ | refine name_world ?_ | refine list_world ?_ | refine post_world ?_
  intro V5 hV5
  have D3 := Lib.hid k2.lt
  have D4 := Lib.hid k3.lt
  have D5 := Lib.hid hb0.size
  have hn : Below U4.heap.size U4 V5 := by rw [hV5]; exact below_a2 _ _ _
  have nk2 := k2.of hn
  have nk3 := k3.of hn
  have nhb0 := hb0.trans (hn.mono hb0.size)
  clear hn
  have k5 : Blk V5 U4.heap.size #[.int .u64 (wd0 r5), .int .u64 (wd1 r5), .int .u64 (wd2 r5), .int .u64 (wd3 r5)] 35 := by rw [hV5]; exact ((Blk.new _ _ _).alloc _)
  have k6 : Blk V5 (U4.heap.size + 1) #[.int .u64 (wd0 r6), .int .u64 (wd1 r6), .int .u64 (wd2 r6), .int .u64 (wd3 r6)] 35 := by rw [hV5]; exact (Blk.new1 _ _ _ _)
  clear k2 k3
  clear hb0
  clear hV5
  have k2 := nk2
  clear nk2
  have k3 := nk3
  clear nk3
  have hb0 := nhb0
  clear nhb0
  obtain ⟨r7, hr7⟩ : ∃ o_o : Int, mulv r2 v = o_o := ⟨_, rfl⟩
  have Hr7 := Lib.hid hr7
  clear hr7
  obtain ⟨r8, hr8⟩ : ∃ o_o : Int, subv y r7 = o_o := ⟨_, rfl⟩
  have Hr8 := Lib.hid hr8
  clear hr8
  obtain ⟨r9, hr9⟩ : ∃ o_o : Int, mulv r5 r8 = o_o := ⟨_, rfl⟩
  have Hr9 := Lib.hid hr9
  clear hr9
  obtain ⟨r10, hr10⟩ : ∃ o_o : Int, mulv r1 v = o_o := ⟨_, rfl⟩
  have Hr10 := Lib.hid hr10
  clear hr10
  obtain ⟨r11, hr11⟩ : ∃ o_o : Int, subv x r10 = o_o := ⟨_, rfl⟩
  have Hr11 := Lib.hid hr11
  clear hr11
  have c2_0 : V5.cell? ⟨(w.heap.size + 1), 0, none⟩ = some (.int .u64 (wd0 x)) := k2.cell 0
  have c2_1 : V5.cell? ⟨(w.heap.size + 1), 1, none⟩ = some (.int .u64 (wd1 x)) := k2.cell 1
  have c2_2 : V5.cell? ⟨(w.heap.size + 1), 2, none⟩ = some (.int .u64 (wd2 x)) := k2.cell 2
  have c2_3 : V5.cell? ⟨(w.heap.size + 1), 3, none⟩ = some (.int .u64 (wd3 x)) := k2.cell 3
  have c2_4 : V5.cell? ⟨(w.heap.size + 1), 4, none⟩ = some (.int .u64 (wd0 y)) := k2.cell 4
  have c2_5 : V5.cell? ⟨(w.heap.size + 1), 5, none⟩ = some (.int .u64 (wd1 y)) := k2.cell 5
  have c2_6 : V5.cell? ⟨(w.heap.size + 1), 6, none⟩ = some (.int .u64 (wd2 y)) := k2.cell 6
  have c2_7 : V5.cell? ⟨(w.heap.size + 1), 7, none⟩ = some (.int .u64 (wd3 y)) := k2.cell 7
  have c2_8 : V5.cell? ⟨(w.heap.size + 1), 8, none⟩ = some (.int .u64 (wd0 v)) := k2.cell 8
  have c2_9 : V5.cell? ⟨(w.heap.size + 1), 9, none⟩ = some (.int .u64 (wd1 v)) := k2.cell 9
  have c2_10 : V5.cell? ⟨(w.heap.size + 1), 10, none⟩ = some (.int .u64 (wd2 v)) := k2.cell 10
  have c2_11 : V5.cell? ⟨(w.heap.size + 1), 11, none⟩ = some (.int .u64 (wd3 v)) := k2.cell 11
  have l2 := k2.lt
  have c3_0 : V5.cell? ⟨U2.heap.size, 0, none⟩ = some (.int .i64 r1) := k3.cell 0
  have c3_1 : V5.cell? ⟨U2.heap.size, 1, none⟩ = some (.int .i64 r2) := k3.cell 1
  have l3 := k3.lt
  have c5_0 : V5.cell? ⟨U4.heap.size, 0, none⟩ = some (.int .u64 (wd0 r5)) := k5.cell 0
  have c5_1 : V5.cell? ⟨U4.heap.size, 1, none⟩ = some (.int .u64 (wd1 r5)) := k5.cell 1
  have c5_2 : V5.cell? ⟨U4.heap.size, 2, none⟩ = some (.int .u64 (wd2 r5)) := k5.cell 2
  have c5_3 : V5.cell? ⟨U4.heap.size, 3, none⟩ = some (.int .u64 (wd3 r5)) := k5.cell 3
  have l5 := k5.lt
  have c6_0 : V5.cell? ⟨(U4.heap.size + 1), 0, none⟩ = some (.int .u64 (wd0 r6)) := k6.cell 0
  have c6_1 : V5.cell? ⟨(U4.heap.size + 1), 1, none⟩ = some (.int .u64 (wd1 r6)) := k6.cell 1
  have c6_2 : V5.cell? ⟨(U4.heap.size + 1), 2, none⟩ = some (.int .u64 (wd2 r6)) := k6.cell 2
  have c6_3 : V5.cell? ⟨(U4.heap.size + 1), 3, none⟩ = some (.int .u64 (wd3 r6)) := k6.cell 3
  have l6 := k6.lt
  have Kk2 := Lib.hid k2
  clear k2
  have Kk3 := Lib.hid k3
  clear k3
  have Kk5 := Lib.hid k5
  clear k5
  have Kk6 := Lib.hid k6
  clear k6
  refine wp_region_up V5.heap.size 21 [(true, 0), (true, 1), (true, 2), (true, 3), (true, 4), (true, 6), (true, 7), (true, 11), (true, 12), (true, 13), (true, 14), (true, 15), (true, 17), (true, 18), (false, 5), (false, 8), (false, 9), (false, 10), (false, 16), (false, 19), (false, 20)] (by kernel_rfl) (by kernel_rfl) (fun _ _ d _ _ h => by cases d <;> exact h) ?_
  have hb : Below V5.heap.size V5 V5.drew := (Below.refl _ _).drew
  iterate 14
    refine wpS_takeL rfl rfl ?_
    go_big_quiet_step (rfl)
    refine wpQuiet_nil ?_
  refine wpS_doL rfl ?_
  intro K hK
  go_wp2_with ((first | (go_at_call 62; (with_reducible refine (Of_v r2 r2 rfl (Hr2.out ▸ lwy_in ax ay bx b_y _iax _iay _ibx _ib_y) _).mono ?_); rintro e w2 ⟨rfl, hn⟩) | (go_at_call 106; (with_reducible refine (crtimes_is r2 v r7 Hr7.out (in64_I' (Hr2.out ▸ lwy_in ax ay bx b_y _iax _iay _ibx _ib_y)) _iv  _).mono ?_); rintro e w2 ⟨rfl, hn⟩) | (go_at_call 108; (with_reducible refine (crless_is y r7 r8 Hr8.out _iy (Hr7.out ▸ mulv_in r2 v)  _).mono ?_); rintro e w2 ⟨rfl, hn⟩) | (go_at_call 106; (with_reducible refine (crtimes_is r5 r8 r9 Hr9.out (Hr5.out ▸ wyx_in ax ay bx b_y _iax _iay _ibx _ib_y) (Hr8.out ▸ subv_in y r7)  _).mono ?_); rintro e w2 ⟨rfl, hn⟩) | (go_at_call 62; (with_reducible refine (Of_v r1 r1 rfl (Hr1.out ▸ lwx_in ax ay bx b_y _iax _iay _ibx _ib_y) _).mono ?_); rintro e w2 ⟨rfl, hn⟩) | (go_at_call 106; (with_reducible refine (crtimes_is r1 v r10 Hr10.out (in64_I' (Hr1.out ▸ lwx_in ax ay bx b_y _iax _iay _ibx _ib_y)) _iv  _).mono ?_); rintro e w2 ⟨rfl, hn⟩) | (go_at_call 108; (with_reducible refine (crless_is x r10 r11 Hr11.out _ix (Hr10.out ▸ mulv_in r1 v)  _).mono ?_); rintro e w2 ⟨rfl, hn⟩)))
  replace hb := hb.trans (hn.mono hb.size)
  refine hK.out _ _ (up_iff.2 hb) ?_
  clear hK K
  clear hn
  refine wpS_doL rfl ?_
  intro K hK
  go_wp2_with ((first | (go_at_call 62; (with_reducible refine (Of_v r2 r2 rfl (Hr2.out ▸ lwy_in ax ay bx b_y _iax _iay _ibx _ib_y) _).mono ?_); rintro e w2 ⟨rfl, hn⟩) | (go_at_call 106; (with_reducible refine (crtimes_is r2 v r7 Hr7.out (in64_I' (Hr2.out ▸ lwy_in ax ay bx b_y _iax _iay _ibx _ib_y)) _iv  _).mono ?_); rintro e w2 ⟨rfl, hn⟩) | (go_at_call 108; (with_reducible refine (crless_is y r7 r8 Hr8.out _iy (Hr7.out ▸ mulv_in r2 v)  _).mono ?_); rintro e w2 ⟨rfl, hn⟩) | (go_at_call 106; (with_reducible refine (crtimes_is r5 r8 r9 Hr9.out (Hr5.out ▸ wyx_in ax ay bx b_y _iax _iay _ibx _ib_y) (Hr8.out ▸ subv_in y r7)  _).mono ?_); rintro e w2 ⟨rfl, hn⟩) | (go_at_call 62; (with_reducible refine (Of_v r1 r1 rfl (Hr1.out ▸ lwx_in ax ay bx b_y _iax _iay _ibx _ib_y) _).mono ?_); rintro e w2 ⟨rfl, hn⟩) | (go_at_call 106; (with_reducible refine (crtimes_is r1 v r10 Hr10.out (in64_I' (Hr1.out ▸ lwx_in ax ay bx b_y _iax _iay _ibx _ib_y)) _iv  _).mono ?_); rintro e w2 ⟨rfl, hn⟩) | (go_at_call 108; (with_reducible refine (crless_is x r10 r11 Hr11.out _ix (Hr10.out ▸ mulv_in r1 v)  _).mono ?_); rintro e w2 ⟨rfl, hn⟩)))
  replace hb := hb.trans (hn.mono hb.size)
  refine hK.out _ _ (up_iff.2 hb) ?_
  clear hK K
  clear hn
  refine wpS_doL rfl ?_
  intro K hK
  go_wp2_with ((first | (go_at_call 62; (with_reducible refine (Of_v r2 r2 rfl (Hr2.out ▸ lwy_in ax ay bx b_y _iax _iay _ibx _ib_y) _).mono ?_); rintro e w2 ⟨rfl, hn⟩) | (go_at_call 106; (with_reducible refine (crtimes_is r2 v r7 Hr7.out (in64_I' (Hr2.out ▸ lwy_in ax ay bx b_y _iax _iay _ibx _ib_y)) _iv  _).mono ?_); rintro e w2 ⟨rfl, hn⟩) | (go_at_call 108; (with_reducible refine (crless_is y r7 r8 Hr8.out _iy (Hr7.out ▸ mulv_in r2 v)  _).mono ?_); rintro e w2 ⟨rfl, hn⟩) | (go_at_call 106; (with_reducible refine (crtimes_is r5 r8 r9 Hr9.out (Hr5.out ▸ wyx_in ax ay bx b_y _iax _iay _ibx _ib_y) (Hr8.out ▸ subv_in y r7)  _).mono ?_); rintro e w2 ⟨rfl, hn⟩) | (go_at_call 62; (with_reducible refine (Of_v r1 r1 rfl (Hr1.out ▸ lwx_in ax ay bx b_y _iax _iay _ibx _ib_y) _).mono ?_); rintro e w2 ⟨rfl, hn⟩) | (go_at_call 106; (with_reducible refine (crtimes_is r1 v r10 Hr10.out (in64_I' (Hr1.out ▸ lwx_in ax ay bx b_y _iax _iay _ibx _ib_y)) _iv  _).mono ?_); rintro e w2 ⟨rfl, hn⟩) | (go_at_call 108; (with_reducible refine (crless_is x r10 r11 Hr11.out _ix (Hr10.out ▸ mulv_in r1 v)  _).mono ?_); rintro e w2 ⟨rfl, hn⟩)))
  replace hb := hb.trans (hn.mono hb.size)
  refine hK.out _ _ (up_iff.2 hb) ?_
  clear hK K
  clear hn
  refine wpS_doL rfl ?_
  intro K hK
  go_wp2_with ((first | (go_at_call 62; (with_reducible refine (Of_v r2 r2 rfl (Hr2.out ▸ lwy_in ax ay bx b_y _iax _iay _ibx _ib_y) _).mono ?_); rintro e w2 ⟨rfl, hn⟩) | (go_at_call 106; (with_reducible refine (crtimes_is r2 v r7 Hr7.out (in64_I' (Hr2.out ▸ lwy_in ax ay bx b_y _iax _iay _ibx _ib_y)) _iv  _).mono ?_); rintro e w2 ⟨rfl, hn⟩) | (go_at_call 108; (with_reducible refine (crless_is y r7 r8 Hr8.out _iy (Hr7.out ▸ mulv_in r2 v)  _).mono ?_); rintro e w2 ⟨rfl, hn⟩) | (go_at_call 106; (with_reducible refine (crtimes_is r5 r8 r9 Hr9.out (Hr5.out ▸ wyx_in ax ay bx b_y _iax _iay _ibx _ib_y) (Hr8.out ▸ subv_in y r7)  _).mono ?_); rintro e w2 ⟨rfl, hn⟩) | (go_at_call 62; (with_reducible refine (Of_v r1 r1 rfl (Hr1.out ▸ lwx_in ax ay bx b_y _iax _iay _ibx _ib_y) _).mono ?_); rintro e w2 ⟨rfl, hn⟩) | (go_at_call 106; (with_reducible refine (crtimes_is r1 v r10 Hr10.out (in64_I' (Hr1.out ▸ lwx_in ax ay bx b_y _iax _iay _ibx _ib_y)) _iv  _).mono ?_); rintro e w2 ⟨rfl, hn⟩) | (go_at_call 108; (with_reducible refine (crless_is x r10 r11 Hr11.out _ix (Hr10.out ▸ mulv_in r1 v)  _).mono ?_); rintro e w2 ⟨rfl, hn⟩)))
  replace hb := hb.trans (hn.mono hb.size)
  refine hK.out _ _ (up_iff.2 hb) ?_
  clear hK K
  clear hn
  refine wpS_doL rfl ?_
  intro K hK
  go_wp2_with ((first | (go_at_call 62; (with_reducible refine (Of_v r2 r2 rfl (Hr2.out ▸ lwy_in ax ay bx b_y _iax _iay _ibx _ib_y) _).mono ?_); rintro e w2 ⟨rfl, hn⟩) | (go_at_call 106; (with_reducible refine (crtimes_is r2 v r7 Hr7.out (in64_I' (Hr2.out ▸ lwy_in ax ay bx b_y _iax _iay _ibx _ib_y)) _iv  _).mono ?_); rintro e w2 ⟨rfl, hn⟩) | (go_at_call 108; (with_reducible refine (crless_is y r7 r8 Hr8.out _iy (Hr7.out ▸ mulv_in r2 v)  _).mono ?_); rintro e w2 ⟨rfl, hn⟩) | (go_at_call 106; (with_reducible refine (crtimes_is r5 r8 r9 Hr9.out (Hr5.out ▸ wyx_in ax ay bx b_y _iax _iay _ibx _ib_y) (Hr8.out ▸ subv_in y r7)  _).mono ?_); rintro e w2 ⟨rfl, hn⟩) | (go_at_call 62; (with_reducible refine (Of_v r1 r1 rfl (Hr1.out ▸ lwx_in ax ay bx b_y _iax _iay _ibx _ib_y) _).mono ?_); rintro e w2 ⟨rfl, hn⟩) | (go_at_call 106; (with_reducible refine (crtimes_is r1 v r10 Hr10.out (in64_I' (Hr1.out ▸ lwx_in ax ay bx b_y _iax _iay _ibx _ib_y)) _iv  _).mono ?_); rintro e w2 ⟨rfl, hn⟩) | (go_at_call 108; (with_reducible refine (crless_is x r10 r11 Hr11.out _ix (Hr10.out ▸ mulv_in r1 v)  _).mono ?_); rintro e w2 ⟨rfl, hn⟩)))
  replace hb := hb.trans (hn.mono hb.size)
  refine hK.out _ _ (up_iff.2 hb) ?_
  clear hK K
  clear hn
  refine wpS_doL rfl ?_
  intro K hK
  go_wp2_with ((first | (go_at_call 62; (with_reducible refine (Of_v r2 r2 rfl (Hr2.out ▸ lwy_in ax ay bx b_y _iax _iay _ibx _ib_y) _).mono ?_); rintro e w2 ⟨rfl, hn⟩) | (go_at_call 106; (with_reducible refine (crtimes_is r2 v r7 Hr7.out (in64_I' (Hr2.out ▸ lwy_in ax ay bx b_y _iax _iay _ibx _ib_y)) _iv  _).mono ?_); rintro e w2 ⟨rfl, hn⟩) | (go_at_call 108; (with_reducible refine (crless_is y r7 r8 Hr8.out _iy (Hr7.out ▸ mulv_in r2 v)  _).mono ?_); rintro e w2 ⟨rfl, hn⟩) | (go_at_call 106; (with_reducible refine (crtimes_is r5 r8 r9 Hr9.out (Hr5.out ▸ wyx_in ax ay bx b_y _iax _iay _ibx _ib_y) (Hr8.out ▸ subv_in y r7)  _).mono ?_); rintro e w2 ⟨rfl, hn⟩) | (go_at_call 62; (with_reducible refine (Of_v r1 r1 rfl (Hr1.out ▸ lwx_in ax ay bx b_y _iax _iay _ibx _ib_y) _).mono ?_); rintro e w2 ⟨rfl, hn⟩) | (go_at_call 106; (with_reducible refine (crtimes_is r1 v r10 Hr10.out (in64_I' (Hr1.out ▸ lwx_in ax ay bx b_y _iax _iay _ibx _ib_y)) _iv  _).mono ?_); rintro e w2 ⟨rfl, hn⟩) | (go_at_call 108; (with_reducible refine (crless_is x r10 r11 Hr11.out _ix (Hr10.out ▸ mulv_in r1 v)  _).mono ?_); rintro e w2 ⟨rfl, hn⟩)))
  replace hb := hb.trans (hn.mono hb.size)
  refine hK.out _ _ (up_iff.2 hb) ?_
  clear hK K
  clear hn
  refine wpS_doL rfl ?_
  intro K hK
  go_wp2_with ((first | (go_at_call 62; (with_reducible refine (Of_v r2 r2 rfl (Hr2.out ▸ lwy_in ax ay bx b_y _iax _iay _ibx _ib_y) _).mono ?_); rintro e w2 ⟨rfl, hn⟩) | (go_at_call 106; (with_reducible refine (crtimes_is r2 v r7 Hr7.out (in64_I' (Hr2.out ▸ lwy_in ax ay bx b_y _iax _iay _ibx _ib_y)) _iv  _).mono ?_); rintro e w2 ⟨rfl, hn⟩) | (go_at_call 108; (with_reducible refine (crless_is y r7 r8 Hr8.out _iy (Hr7.out ▸ mulv_in r2 v)  _).mono ?_); rintro e w2 ⟨rfl, hn⟩) | (go_at_call 106; (with_reducible refine (crtimes_is r5 r8 r9 Hr9.out (Hr5.out ▸ wyx_in ax ay bx b_y _iax _iay _ibx _ib_y) (Hr8.out ▸ subv_in y r7)  _).mono ?_); rintro e w2 ⟨rfl, hn⟩) | (go_at_call 62; (with_reducible refine (Of_v r1 r1 rfl (Hr1.out ▸ lwx_in ax ay bx b_y _iax _iay _ibx _ib_y) _).mono ?_); rintro e w2 ⟨rfl, hn⟩) | (go_at_call 106; (with_reducible refine (crtimes_is r1 v r10 Hr10.out (in64_I' (Hr1.out ▸ lwx_in ax ay bx b_y _iax _iay _ibx _ib_y)) _iv  _).mono ?_); rintro e w2 ⟨rfl, hn⟩) | (go_at_call 108; (with_reducible refine (crless_is x r10 r11 Hr11.out _ix (Hr10.out ▸ mulv_in r1 v)  _).mono ?_); rintro e w2 ⟨rfl, hn⟩)))
  replace hb := hb.trans (hn.mono hb.size)
  refine hK.out _ _ (up_iff.2 hb) ?_
  clear hK K
  clear hn
  refine wpS_nil ?_
  simp only [List.drop_succ_cons, List.drop_zero]
  first | refine calls_w ?_ | refine name_world ?_ | refine list_world ?_ | refine post_world ?_
  intro U6 hU6
  first | subst hU6 | (rw [← hU6] at hb; clear hU6)
  clear c2_0 c2_1 c2_2 c2_3 c2_4 c2_5 c2_6 c2_7 c2_8 c2_9 c2_10 c2_11 l2 c3_0 c3_1 l3 c5_0 c5_1 c5_2 c5_3 l5 c6_0 c6_1 c6_2 c6_3 l6
  have k2 := Kk2.out.of hb
  clear Kk2
  have k3 := Kk3.out.of hb
  clear Kk3
  have k5 := Kk5.out.of hb
  clear Kk5
  have k6 := Kk6.out.of hb
  clear Kk6
  replace hb0 := hb0.trans (hb.mono hb0.size)
  clear hb
  go_wp2_with fail
  obtain ⟨r12, hr12⟩ : ∃ o_o : Int, mulv r6 r11 = o_o := ⟨_, rfl⟩
  have Hr12 := Lib.hid hr12
  clear hr12
  refine (crtimes_is r6 r11 r12 Hr12.out (Hr6.out ▸ wyy_in ax ay bx b_y _iax _iay _ibx _ib_y) (Hr11.out ▸ subv_in x r10)  _).mono ?_
  rintro e U7 ⟨rfl, hn⟩
  clear k2 k3 k5 k6
  replace hb0 := hb0.trans (hn.mono hb0.size)
  clear hn
  go_wp2_with fail
  obtain ⟨r13, hr13⟩ : ∃ o_o : Int, subv r9 r12 = o_o := ⟨_, rfl⟩
  have Hr13 := Lib.hid hr13
  clear hr13
  refine (crless_is r9 r12 r13 Hr13.out (Hr9.out ▸ mulv_in r5 r8) (Hr12.out ▸ mulv_in r6 r11)  _).mono ?_
  rintro e U8 ⟨rfl, hn⟩
  replace hb0 := hb0.trans (hn.mono hb0.size)
  clear hn
  go_wp2_with fail
  obtain ⟨r14, hr14⟩ : ∃ o_o : Int, r13.sign = o_o := ⟨_, rfl⟩
  have Hr14 := Lib.hid hr14
  clear hr14
  refine (Sign_v r13 r14 Hr14.out (Hr13.out ▸ subv_in r9 r12) _).mono ?_
  rintro e U9 ⟨rfl, hn⟩
  replace hb0 := hb0.trans (hn.mono hb0.size)
  clear hn
  have e0 : r14 = R0 := by rw [← HR0.out]; unfold sde; (try rw [Hr1.out]); (try rw [Hr2.out]); (try rw [Hr3.out]); (try rw [Hr4.out]); (try rw [Hr5.out]); (try rw [Hr6.out]); (try rw [Hr7.out]); (try rw [Hr8.out]); (try rw [Hr9.out]); (try rw [Hr10.out]); (try rw [Hr11.out]); (try rw [Hr12.out]); (try rw [Hr13.out]); (try rw [Hr14.out]); all_goals first | rfl | simp
  subst e0
  go_wp2
  first | go_ret | go_ret2
  exact ⟨by first | rfl | simp, hb0⟩
end Go.Proofs.Ytlcbomjdbdgbmaa
