/- The walk of gromalaw01's WideSmall. Conditions: the numbers are an int and a number of 256 bits; the table of powers lies as laid. -/
import Derived.Test.YtgddpkopbiendaaDoorWdE
namespace Go.Proofs.YtgddpkopbiendaaDoor
open Go.RowKit

theorem pow63 (w : World) : Calls Tryd.prog 21 #[.int .i64 63] w (GivesBig w 9223372036854775808 5) := by
  have h := Power_any 63 w (by decide)
  rw [show (2 : Int) ^ 63 = 9223372036854775808 by decide] at h
  exact h
set_option maxRecDepth 100000 in
set_option maxHeartbeats 4000000 in
theorem WSm_A (n x : Int) (hc : cmpI x (-9223372036854775808) = -1) (hn6 : In64 n) (hsn : sg n = n) (hsx : sg x = x)
    (hA : ∀ w, Calls Tryd.prog 26 #[wI n] w fun e w' => e = .returned (.tuple #[.int .i64 n, .bool true]) ∧ Below w.heap.size w w')
    (hB : ∀ w, Calls Tryd.prog 26 #[wI x] w fun e w' => e = .returned (.tuple #[.int .i64 0, .bool false]) ∧ Below w.heap.size w w') (w : World) (hG : Tab w) :
    Calls Tryd.prog 5 #[.int .i64 n, wI x] w fun e w' => e = .returned (.bool true) ∧ Below w.heap.size w w' := by
  have I6 := Lib.hid hn6
  have SN := Lib.hid hsn
  have SX := Lib.hid hsx
  have CA := Lib.hid hA
  have CB := Lib.hid hB
  have EC := Lib.hid hc
  clear hn6 hsn hsx hA hB hc
  go_enter Tryd.func5, Tryd.ntmps5
  go_wp2_with fail
  first | refine calls_w ?_ | refine name_world ?_
  intro W hW
  have ka : Var W (w.heap.size) x := by rw [hW]; exact (Blk.new w _ _)
  have hb0 : Below w.heap.size w W := by rw [hW]; exact below_a1 _ _
  clear hW
  refine (Of_any n _ I6.out).mono ?_
  rintro e u1 ⟨rfl, hn⟩
  replace ka := ka.of hn
  replace hb0 := hb0.trans (hn.mono hb0.size)
  clear hn
  go_wp2_with fail
  refine (bigOf_any n _ I6.out).mono ?_
  rintro e u2 ⟨vHN, rfl, hbm, hn⟩
  replace ka := ka.of hn
  replace hb0 := hb0.trans (hn.mono hb0.size)
  have HN := Lib.hid hbm
  clear hbm hn
  go_wp2_with fail
  refine (is_is n n _ 5 0 true (cmpI_eq _) rfl SN.out _ HN.out).mono ?_
  rintro e u3 ⟨rfl, hn⟩
  replace ka := ka.of hn
  replace HN := Lib.hid (HN.out.of hn)
  replace hb0 := hb0.trans (hn.mono hb0.size)
  clear hn
  clear HN
  go_wp2_with fail
  refine (Of_any n _ I6.out).mono ?_
  rintro e u4 ⟨rfl, hn⟩
  replace ka := ka.of hn
  replace hb0 := hb0.trans (hn.mono hb0.size)
  clear hn
  go_wp2_with fail
  refine (CA.out _).mono ?_
  rintro e u5 ⟨rfl, hn⟩
  replace ka := ka.of hn
  replace hb0 := hb0.trans (hn.mono hb0.size)
  clear hn
  have cka := Var.c ka
  have lka := ka.lt
  go_wp2_with fail
  clear cka lka
  refine (CB.out _).mono ?_
  rintro e u6 ⟨rfl, hn⟩
  replace ka := ka.of hn
  replace hb0 := hb0.trans (hn.mono hb0.size)
  clear hn
  have cka := Var.c ka
  have lka := ka.lt
  go_wp2_with fail
  clear cka lka
  refine (Read_in x SX.out _).mono ?_
  rintro e u7r ⟨vHX, rfl, hbm, hn⟩
  replace ka := ka.of hn
  replace hb0 := hb0.trans (hn.mono hb0.size)
  have HX := Lib.hid hbm
  have hvm := hbm.shape
  clear hbm hn
  obtain ⟨n5, a5, q5, e5, rfl⟩ := hvm
  have cka := Var.c ka
  have lka := ka.lt
  go_wp2_with fail
  clear cka lka
  refine (pow63 _).mono ?_
  rintro e u7p ⟨vHY, rfl, hbm, hn⟩
  replace ka := ka.of hn
  replace HX := Lib.hid (HX.out.of hn)
  replace hb0 := hb0.trans (hn.mono hb0.size)
  have HY := Lib.hid hbm
  have hvm := hbm.shape
  clear hbm hn
  obtain ⟨n6, a6, q6, e6, rfl⟩ := hvm
  have cka := Var.c ka
  have lka := ka.lt
  go_wp2_with fail
  clear cka lka
  first | refine calls_w ?_ | refine name_world ?_
  intro V hV
  have kX : BigVar V (u7p.heap.size) n5 a5 q5 e5 := by rw [hV]; exact (Blk.new _ _ _) |>.alloc _
  have kY : BigVar V (u7p.heap.size + 1) n6 a6 q6 e6 := by rw [hV]; exact (Blk.new1 _ _ _ _)
  have hn : Below u7p.heap.size u7p V := by rw [hV]; exact below_a2 _ _ _
  replace ka := ka.of hn
  replace HX := Lib.hid (HX.out.of hn)
  replace HY := Lib.hid (HY.out.of hn)
  replace hb0 := hb0.trans (hn.mono hb0.size)
  clear hn hV
  have cka := Var.c ka
  have lka := ka.lt
  have ckX := BigVar.c kX
  have lkX := kX.lt
  have ckY := BigVar.c kY
  have lkY := kY.lt
  have Hka := Lib.hid ka
  clear ka
  have HkX := Lib.hid kX
  clear kX
  have HkY := Lib.hid kY
  clear kY
  refine wp_region_up V.heap.size 8 [(true, 0), (true, 1), (false, 2), (false, 3), (true, 4), (true, 5), (true, 6), (true, 7)] (by kernel_rfl) (by kernel_rfl) (fun _ _ d _ _ h => by cases d <;> exact h) ?_
  have hb : Below V.heap.size V V.drew := (Below.refl _ _).drew
  iterate 2
    refine wpS_takeL rfl rfl ?_
    go_big_quiet_step (rfl)
    refine wpQuiet_nil ?_
  refine wpS_doL rfl ?_
  intro K hK
  go_wp2_with ((first | (go_at_call 20; (with_reducible refine (Minus_any (.agg #[.bool n6, .slice a6 q6 e6]) 9223372036854775808 5 _ (HY.out.of hb)).mono ?_); rintro e w8 ⟨vmHM, rfl, hbm, hn⟩; have HM := Lib.hid hbm; clear hbm) | (go_at_call 19; (with_reducible refine (bigCmp_is (.agg #[.bool n5, .slice a5 q5 e5]) _ x (-9223372036854775808) 18 5 (-1) EC.out _ (HX.out.of hb) HM.out).mono ?_); rintro e w7 ⟨rfl, hn⟩)))
  replace hb := hb.trans (hn.mono hb.size)
  refine hK.out _ _ (up_iff.2 hb) ?_
  clear hK K
  clear hn
  refine wpS_doL rfl ?_
  intro K hK
  go_wp2_with ((first | (go_at_call 20; (with_reducible refine (Minus_any (.agg #[.bool n6, .slice a6 q6 e6]) 9223372036854775808 5 _ (HY.out.of hb)).mono ?_); rintro e w8 ⟨vmHM, rfl, hbm, hn⟩; have HM := Lib.hid hbm; clear hbm) | (go_at_call 19; (with_reducible refine (bigCmp_is (.agg #[.bool n5, .slice a5 q5 e5]) _ x (-9223372036854775808) 18 5 (-1) EC.out _ (HX.out.of hb) HM.out).mono ?_); rintro e w7 ⟨rfl, hn⟩)))
  replace hb := hb.trans (hn.mono hb.size)
  refine hK.out _ _ (up_iff.2 hb) ?_
  clear hK K
  clear hn
  iterate 4
    refine wpS_takeL rfl rfl ?_
    go_big_quiet_step (rfl)
    refine wpQuiet_nil ?_
  refine wpS_nil ?_
  simp only [List.drop_succ_cons, List.drop_zero]
  replace HX := Lib.hid (HX.out.of hb)
  replace HY := Lib.hid (HY.out.of hb)
  have ka := Hka.out.of hb
  clear Hka
  have kX := HkX.out.of hb
  clear HkX
  have kY := HkY.out.of hb
  clear HkY
  replace hb0 := hb0.trans (hb.mono hb0.size)
  clear hb
  clear cka lka ckX lkX ckY lkY
  have cka := Var.c ka
  have lka := ka.lt
  have ckX := BigVar.c kX
  have lkX := kX.lt
  have ckY := BigVar.c kY
  have lkY := kY.lt
  go_wp2_with fail
  clear cka lka ckX lkX ckY lkY
  clear kX kY HX HY
  refine (wawake_any _ (hG.of hb0)).mono ?_
  rintro e wz ⟨rfl, hn⟩
  replace hb0 := hb0.trans (hn.mono hb0.size)
  clear hn
  go_wp2
  go_ret
  exact ⟨by simp, hb0⟩

set_option maxRecDepth 100000 in
set_option maxHeartbeats 4000000 in
theorem WSm_B (n x : Int) (c d : Int) (hc : cmpI x (-9223372036854775808) = c) (hd : cmpI x 9223372036854775808 = d) (hc0 : decide (c < 0) = false) (hd0 : 0 ≤ d) (hn6 : In64 n) (hsn : sg n = n) (hsx : sg x = x)
    (hA : ∀ w, Calls Tryd.prog 26 #[wI n] w fun e w' => e = .returned (.tuple #[.int .i64 n, .bool true]) ∧ Below w.heap.size w w')
    (hB : ∀ w, Calls Tryd.prog 26 #[wI x] w fun e w' => e = .returned (.tuple #[.int .i64 0, .bool false]) ∧ Below w.heap.size w w') (w : World) (hG : Tab w) :
    Calls Tryd.prog 5 #[.int .i64 n, wI x] w fun e w' => e = .returned (.bool true) ∧ Below w.heap.size w w' := by
  have I6 := Lib.hid hn6
  have SN := Lib.hid hsn
  have SX := Lib.hid hsx
  have CA := Lib.hid hA
  have CB := Lib.hid hB
  have EC := Lib.hid hc
  have ED := Lib.hid hd
  have HC0 := Lib.hid hc0
  clear hn6 hsn hsx hA hB hc hd hc0
  go_enter Tryd.func5, Tryd.ntmps5
  go_wp2_with fail
  first | refine calls_w ?_ | refine name_world ?_
  intro W hW
  have ka : Var W (w.heap.size) x := by rw [hW]; exact (Blk.new w _ _)
  have hb0 : Below w.heap.size w W := by rw [hW]; exact below_a1 _ _
  clear hW
  refine (Of_any n _ I6.out).mono ?_
  rintro e u1 ⟨rfl, hn⟩
  replace ka := ka.of hn
  replace hb0 := hb0.trans (hn.mono hb0.size)
  clear hn
  go_wp2_with fail
  refine (bigOf_any n _ I6.out).mono ?_
  rintro e u2 ⟨vHN, rfl, hbm, hn⟩
  replace ka := ka.of hn
  replace hb0 := hb0.trans (hn.mono hb0.size)
  have HN := Lib.hid hbm
  clear hbm hn
  go_wp2_with fail
  refine (is_is n n _ 5 0 true (cmpI_eq _) rfl SN.out _ HN.out).mono ?_
  rintro e u3 ⟨rfl, hn⟩
  replace ka := ka.of hn
  replace HN := Lib.hid (HN.out.of hn)
  replace hb0 := hb0.trans (hn.mono hb0.size)
  clear hn
  clear HN
  go_wp2_with fail
  refine (Of_any n _ I6.out).mono ?_
  rintro e u4 ⟨rfl, hn⟩
  replace ka := ka.of hn
  replace hb0 := hb0.trans (hn.mono hb0.size)
  clear hn
  go_wp2_with fail
  refine (CA.out _).mono ?_
  rintro e u5 ⟨rfl, hn⟩
  replace ka := ka.of hn
  replace hb0 := hb0.trans (hn.mono hb0.size)
  clear hn
  have cka := Var.c ka
  have lka := ka.lt
  go_wp2_with fail
  clear cka lka
  refine (CB.out _).mono ?_
  rintro e u6 ⟨rfl, hn⟩
  replace ka := ka.of hn
  replace hb0 := hb0.trans (hn.mono hb0.size)
  clear hn
  have cka := Var.c ka
  have lka := ka.lt
  go_wp2_with fail
  clear cka lka
  refine (Read_in x SX.out _).mono ?_
  rintro e u7r ⟨vHX, rfl, hbm, hn⟩
  replace ka := ka.of hn
  replace hb0 := hb0.trans (hn.mono hb0.size)
  have HX := Lib.hid hbm
  have hvm := hbm.shape
  clear hbm hn
  obtain ⟨n5, a5, q5, e5, rfl⟩ := hvm
  have cka := Var.c ka
  have lka := ka.lt
  go_wp2_with fail
  clear cka lka
  refine (pow63 _).mono ?_
  rintro e u7p ⟨vHY, rfl, hbm, hn⟩
  replace ka := ka.of hn
  replace HX := Lib.hid (HX.out.of hn)
  replace hb0 := hb0.trans (hn.mono hb0.size)
  have HY := Lib.hid hbm
  have hvm := hbm.shape
  clear hbm hn
  obtain ⟨n6, a6, q6, e6, rfl⟩ := hvm
  have cka := Var.c ka
  have lka := ka.lt
  go_wp2_with fail
  clear cka lka
  first | refine calls_w ?_ | refine name_world ?_
  intro V hV
  have kX : BigVar V (u7p.heap.size) n5 a5 q5 e5 := by rw [hV]; exact (Blk.new _ _ _) |>.alloc _
  have kY : BigVar V (u7p.heap.size + 1) n6 a6 q6 e6 := by rw [hV]; exact (Blk.new1 _ _ _ _)
  have hn : Below u7p.heap.size u7p V := by rw [hV]; exact below_a2 _ _ _
  replace ka := ka.of hn
  replace HX := Lib.hid (HX.out.of hn)
  replace HY := Lib.hid (HY.out.of hn)
  replace hb0 := hb0.trans (hn.mono hb0.size)
  clear hn hV
  have hcb := HC0.out
  have cka := Var.c ka
  have lka := ka.lt
  have ckX := BigVar.c kX
  have lkX := kX.lt
  have ckY := BigVar.c kY
  have lkY := kY.lt
  have Hka := Lib.hid ka
  clear ka
  have HkX := Lib.hid kX
  clear kX
  have HkY := Lib.hid kY
  clear kY
  refine wp_region_up V.heap.size 8 [(true, 0), (true, 1), (false, 2), (false, 3), (true, 4), (true, 5), (true, 6), (true, 7)] (by kernel_rfl) (by kernel_rfl) (fun _ _ d _ _ h => by cases d <;> exact h) ?_
  have hb : Below V.heap.size V V.drew := (Below.refl _ _).drew
  iterate 2
    refine wpS_takeL rfl rfl ?_
    go_big_quiet_step (rfl)
    refine wpQuiet_nil ?_
  refine wpS_doL rfl ?_
  intro K hK
  go_wp2_with ((first | (go_at_call 20; (with_reducible refine (Minus_any (.agg #[.bool n6, .slice a6 q6 e6]) 9223372036854775808 5 _ (HY.out.of hb)).mono ?_); rintro e w8 ⟨vmHM, rfl, hbm, hn⟩; have HM := Lib.hid hbm; clear hbm) | (go_at_call 19; (with_reducible refine (bigCmp_is (.agg #[.bool n5, .slice a5 q5 e5]) _ x (-9223372036854775808) 18 5 c EC.out _ (HX.out.of hb) HM.out).mono ?_); rintro e w7 ⟨rfl, hn⟩)))
  replace hb := hb.trans (hn.mono hb.size)
  refine hK.out _ _ (up_iff.2 hb) ?_
  clear hK K
  clear hn
  refine wpS_doL rfl ?_
  intro K hK
  go_wp2_with ((first | (go_at_call 20; (with_reducible refine (Minus_any (.agg #[.bool n6, .slice a6 q6 e6]) 9223372036854775808 5 _ (HY.out.of hb)).mono ?_); rintro e w8 ⟨vmHM, rfl, hbm, hn⟩; have HM := Lib.hid hbm; clear hbm) | (go_at_call 19; (with_reducible refine (bigCmp_is (.agg #[.bool n5, .slice a5 q5 e5]) _ x (-9223372036854775808) 18 5 c EC.out _ (HX.out.of hb) HM.out).mono ?_); rintro e w7 ⟨rfl, hn⟩)))
  replace hb := hb.trans (hn.mono hb.size)
  refine hK.out _ _ (up_iff.2 hb) ?_
  clear hK K
  clear hn
  iterate 4
    refine wpS_takeL rfl rfl ?_
    go_big_quiet_step (rfl)
    refine wpQuiet_nil ?_
  refine wpS_nil ?_
  simp only [List.drop_succ_cons, List.drop_zero]
  replace HX := Lib.hid (HX.out.of hb)
  replace HY := Lib.hid (HY.out.of hb)
  have ka := Hka.out.of hb
  clear Hka
  have kX := HkX.out.of hb
  clear HkX
  have kY := HkY.out.of hb
  clear HkY
  replace hb0 := hb0.trans (hb.mono hb0.size)
  clear hb
  clear cka lka ckX lkX ckY lkY
  have cka := Var.c ka
  have lka := ka.lt
  have ckX := BigVar.c kX
  have lkX := kX.lt
  have ckY := BigVar.c kY
  have lkY := kY.lt
  go_wp2_with fail
  clear cka lka ckX lkX ckY lkY
  refine (bigCmp_is (.agg #[.bool n5, .slice a5 q5 e5]) (.agg #[.bool n6, .slice a6 q6 e6]) x 9223372036854775808 18 5 d ED.out _ HX.out HY.out).mono ?_
  rintro e u7 ⟨rfl, hn⟩
  replace ka := ka.of hn
  replace kX := kX.of hn
  replace kY := kY.of hn
  replace HX := Lib.hid (HX.out.of hn)
  replace HY := Lib.hid (HY.out.of hn)
  replace hb0 := hb0.trans (hn.mono hb0.size)
  clear hn
  clear kX kY HX HY
  have cka := Var.c ka
  have lka := ka.lt
  go_wp2_with fail
  clear cka lka
  refine (wawake_any _ (hG.of hb0)).mono ?_
  rintro e wz ⟨rfl, hn⟩
  replace hb0 := hb0.trans (hn.mono hb0.size)
  clear hn
  go_wp2
  go_ret
  exact ⟨by simp, hb0⟩

set_option maxRecDepth 100000 in
set_option maxHeartbeats 4000000 in
theorem WSm_C (n x : Int) (c : Int) (hc : cmpI x (-9223372036854775808) = c) (hd : cmpI x 9223372036854775808 = -1) (hc0 : decide (c < 0) = false) (hx6 : In64 x) (hn6 : In64 n) (hsn : sg n = n) (hsx : sg x = x)
    (hA : ∀ w, Calls Tryd.prog 26 #[wI n] w fun e w' => e = .returned (.tuple #[.int .i64 n, .bool true]) ∧ Below w.heap.size w w')
    (hB : ∀ w, Calls Tryd.prog 26 #[wI x] w fun e w' => e = .returned (.tuple #[.int .i64 x, .bool true]) ∧ Below w.heap.size w w') (w : World) (hG : Tab w) :
    Calls Tryd.prog 5 #[.int .i64 n, wI x] w fun e w' => e = .returned (.bool true) ∧ Below w.heap.size w w' := by
  have I6 := Lib.hid hn6
  have SN := Lib.hid hsn
  have SX := Lib.hid hsx
  have CA := Lib.hid hA
  have CB := Lib.hid hB
  have EC := Lib.hid hc
  have ED := Lib.hid hd
  have HC0 := Lib.hid hc0
  have X6 := Lib.hid hx6
  clear hn6 hsn hsx hA hB hc hd hc0 hx6
  go_enter Tryd.func5, Tryd.ntmps5
  go_wp2_with fail
  first | refine calls_w ?_ | refine name_world ?_
  intro W hW
  have ka : Var W (w.heap.size) x := by rw [hW]; exact (Blk.new w _ _)
  have hb0 : Below w.heap.size w W := by rw [hW]; exact below_a1 _ _
  clear hW
  refine (Of_any n _ I6.out).mono ?_
  rintro e u1 ⟨rfl, hn⟩
  replace ka := ka.of hn
  replace hb0 := hb0.trans (hn.mono hb0.size)
  clear hn
  go_wp2_with fail
  refine (bigOf_any n _ I6.out).mono ?_
  rintro e u2 ⟨vHN, rfl, hbm, hn⟩
  replace ka := ka.of hn
  replace hb0 := hb0.trans (hn.mono hb0.size)
  have HN := Lib.hid hbm
  clear hbm hn
  go_wp2_with fail
  refine (is_is n n _ 5 0 true (cmpI_eq _) rfl SN.out _ HN.out).mono ?_
  rintro e u3 ⟨rfl, hn⟩
  replace ka := ka.of hn
  replace HN := Lib.hid (HN.out.of hn)
  replace hb0 := hb0.trans (hn.mono hb0.size)
  clear hn
  clear HN
  go_wp2_with fail
  refine (Of_any n _ I6.out).mono ?_
  rintro e u4 ⟨rfl, hn⟩
  replace ka := ka.of hn
  replace hb0 := hb0.trans (hn.mono hb0.size)
  clear hn
  go_wp2_with fail
  refine (CA.out _).mono ?_
  rintro e u5 ⟨rfl, hn⟩
  replace ka := ka.of hn
  replace hb0 := hb0.trans (hn.mono hb0.size)
  clear hn
  have cka := Var.c ka
  have lka := ka.lt
  go_wp2_with fail
  clear cka lka
  refine (CB.out _).mono ?_
  rintro e u6 ⟨rfl, hn⟩
  replace ka := ka.of hn
  replace hb0 := hb0.trans (hn.mono hb0.size)
  clear hn
  have cka := Var.c ka
  have lka := ka.lt
  go_wp2_with fail
  clear cka lka
  refine (Read_in x SX.out _).mono ?_
  rintro e u7r ⟨vHX, rfl, hbm, hn⟩
  replace ka := ka.of hn
  replace hb0 := hb0.trans (hn.mono hb0.size)
  have HX := Lib.hid hbm
  have hvm := hbm.shape
  clear hbm hn
  obtain ⟨n5, a5, q5, e5, rfl⟩ := hvm
  have cka := Var.c ka
  have lka := ka.lt
  go_wp2_with fail
  clear cka lka
  refine (pow63 _).mono ?_
  rintro e u7p ⟨vHY, rfl, hbm, hn⟩
  replace ka := ka.of hn
  replace HX := Lib.hid (HX.out.of hn)
  replace hb0 := hb0.trans (hn.mono hb0.size)
  have HY := Lib.hid hbm
  have hvm := hbm.shape
  clear hbm hn
  obtain ⟨n6, a6, q6, e6, rfl⟩ := hvm
  have cka := Var.c ka
  have lka := ka.lt
  go_wp2_with fail
  clear cka lka
  first | refine calls_w ?_ | refine name_world ?_
  intro V hV
  have kX : BigVar V (u7p.heap.size) n5 a5 q5 e5 := by rw [hV]; exact (Blk.new _ _ _) |>.alloc _
  have kY : BigVar V (u7p.heap.size + 1) n6 a6 q6 e6 := by rw [hV]; exact (Blk.new1 _ _ _ _)
  have hn : Below u7p.heap.size u7p V := by rw [hV]; exact below_a2 _ _ _
  replace ka := ka.of hn
  replace HX := Lib.hid (HX.out.of hn)
  replace HY := Lib.hid (HY.out.of hn)
  replace hb0 := hb0.trans (hn.mono hb0.size)
  clear hn hV
  have hcb := HC0.out
  have cka := Var.c ka
  have lka := ka.lt
  have ckX := BigVar.c kX
  have lkX := kX.lt
  have ckY := BigVar.c kY
  have lkY := kY.lt
  have Hka := Lib.hid ka
  clear ka
  have HkX := Lib.hid kX
  clear kX
  have HkY := Lib.hid kY
  clear kY
  refine wp_region_up V.heap.size 8 [(true, 0), (true, 1), (false, 2), (false, 3), (true, 4), (true, 5), (true, 6), (true, 7)] (by kernel_rfl) (by kernel_rfl) (fun _ _ d _ _ h => by cases d <;> exact h) ?_
  have hb : Below V.heap.size V V.drew := (Below.refl _ _).drew
  iterate 2
    refine wpS_takeL rfl rfl ?_
    go_big_quiet_step (rfl)
    refine wpQuiet_nil ?_
  refine wpS_doL rfl ?_
  intro K hK
  go_wp2_with ((first | (go_at_call 20; (with_reducible refine (Minus_any (.agg #[.bool n6, .slice a6 q6 e6]) 9223372036854775808 5 _ (HY.out.of hb)).mono ?_); rintro e w8 ⟨vmHM, rfl, hbm, hn⟩; have HM := Lib.hid hbm; clear hbm) | (go_at_call 19; (with_reducible refine (bigCmp_is (.agg #[.bool n5, .slice a5 q5 e5]) _ x (-9223372036854775808) 18 5 c EC.out _ (HX.out.of hb) HM.out).mono ?_); rintro e w7 ⟨rfl, hn⟩)))
  replace hb := hb.trans (hn.mono hb.size)
  refine hK.out _ _ (up_iff.2 hb) ?_
  clear hK K
  clear hn
  refine wpS_doL rfl ?_
  intro K hK
  go_wp2_with ((first | (go_at_call 20; (with_reducible refine (Minus_any (.agg #[.bool n6, .slice a6 q6 e6]) 9223372036854775808 5 _ (HY.out.of hb)).mono ?_); rintro e w8 ⟨vmHM, rfl, hbm, hn⟩; have HM := Lib.hid hbm; clear hbm) | (go_at_call 19; (with_reducible refine (bigCmp_is (.agg #[.bool n5, .slice a5 q5 e5]) _ x (-9223372036854775808) 18 5 c EC.out _ (HX.out.of hb) HM.out).mono ?_); rintro e w7 ⟨rfl, hn⟩)))
  replace hb := hb.trans (hn.mono hb.size)
  refine hK.out _ _ (up_iff.2 hb) ?_
  clear hK K
  clear hn
  iterate 4
    refine wpS_takeL rfl rfl ?_
    go_big_quiet_step (rfl)
    refine wpQuiet_nil ?_
  refine wpS_nil ?_
  simp only [List.drop_succ_cons, List.drop_zero]
  replace HX := Lib.hid (HX.out.of hb)
  replace HY := Lib.hid (HY.out.of hb)
  have ka := Hka.out.of hb
  clear Hka
  have kX := HkX.out.of hb
  clear HkX
  have kY := HkY.out.of hb
  clear HkY
  replace hb0 := hb0.trans (hb.mono hb0.size)
  clear hb
  clear cka lka ckX lkX ckY lkY
  have cka := Var.c ka
  have lka := ka.lt
  have ckX := BigVar.c kX
  have lkX := kX.lt
  have ckY := BigVar.c kY
  have lkY := kY.lt
  go_wp2_with fail
  clear cka lka ckX lkX ckY lkY
  refine (bigCmp_is (.agg #[.bool n5, .slice a5 q5 e5]) (.agg #[.bool n6, .slice a6 q6 e6]) x 9223372036854775808 18 5 (-1) ED.out _ HX.out HY.out).mono ?_
  rintro e u7 ⟨rfl, hn⟩
  replace ka := ka.of hn
  replace kX := kX.of hn
  replace kY := kY.of hn
  replace HX := Lib.hid (HX.out.of hn)
  replace HY := Lib.hid (HY.out.of hn)
  replace hb0 := hb0.trans (hn.mono hb0.size)
  clear hn
  clear kX kY HX HY
  have cka := Var.c ka
  have lka := ka.lt
  go_wp2_with fail
  clear cka lka
  refine name_world ?_
  intro W3 hW3
  obtain rfl : W3 = u7 := hW3
  have cka := Var.c ka
  have lka := ka.lt
  have Hka := Lib.hid ka
  clear ka
  refine wp_region_up W3.heap.size 5 [(true, 0), (true, 1), (true, 2), (true, 3), (false, 4)] (by kernel_rfl) (by kernel_rfl) (fun _ _ d _ _ h => by cases d <;> exact h) ?_
  have hb : Below W3.heap.size W3 W3.drew := (Below.refl _ _).drew
  iterate 4
    refine wpS_takeL rfl rfl ?_
    go_big_quiet_step (rfl)
    refine wpQuiet_nil ?_
  refine wpS_doL rfl ?_
  intro K hK
  go_wp2_with ((first | (go_at_call 22; (with_reducible refine (bigOf_any x _ X6.out).mono ?_); rintro e w8 ⟨vmHO, rfl, hbm, hn⟩; have HO := Lib.hid hbm; clear hbm)))
  try replace hb := hb.trans (hn.mono hb.size)
  refine hK.out _ _ (up_iff.2 hb) ?_
  clear hK K
  try clear hn
  refine wpS_nil ?_
  simp only [List.drop_succ_cons, List.drop_zero]
  have ka := Hka.out.of hb
  clear Hka
  replace hb0 := hb0.trans (hb.mono hb0.size)
  clear hb
  clear cka lka
  have cka := Var.c ka
  have lka := ka.lt
  go_wp2_with fail
  clear cka lka
  refine (is_is x x _ 5 0 true (cmpI_eq _) rfl SX.out _ HO.out).mono ?_
  rintro e u8 ⟨rfl, hn⟩
  replace ka := ka.of hn
  replace hb0 := hb0.trans (hn.mono hb0.size)
  clear hn
  have cka := Var.c ka
  have lka := ka.lt
  go_wp2_with fail
  clear cka lka
  refine (wawake_any _ (hG.of hb0)).mono ?_
  rintro e wz ⟨rfl, hn⟩
  replace hb0 := hb0.trans (hn.mono hb0.size)
  clear hn
  go_wp2
  go_ret
  exact ⟨by simp, hb0⟩

theorem WSm_any (n x : Int) (w : World) (hG : Tab w) (hn : In64 n) (ix : InI x) :
    Calls Tryd.prog 5 #[.int .i64 n, wI x] w fun e w' => e = .returned (.bool true) ∧ Below w.heap.size w w' := by
  have jn : InI n := by unfold In64 at hn; unfold InI b255; omega
  have hA := fun w => Small_any n w jn true (decide_eq_true hn)
  by_cases h1 : x < -9223372036854775808
  · have hB := fun w => Small_any x w ix false (decide_eq_false (by unfold In64; omega))
    exact WSm_A n x (cmpI_lt h1) hn (sg_id jn) (sg_id ix) hA hB w hG
  · have hc0 : decide (cmpI x (-9223372036854775808) < 0) = false := by
      have := cmp_lt' (n := x) (m := -9223372036854775808)
      rw [decide_eq_false h1] at this
      exact this
    by_cases h2 : x < 9223372036854775808
    · have h6 : In64 x := by unfold In64; omega
      have hB := fun w => Small_any x w ix true (decide_eq_true h6)
      exact WSm_C n x _ rfl (cmpI_lt h2) hc0 h6 hn (sg_id jn) (sg_id ix) hA hB w hG
    · have hB := fun w => Small_any x w ix false (decide_eq_false (by unfold In64; omega))
      have hd0 : 0 ≤ cmpI x 9223372036854775808 := by
        have := cmp_ge (n := x) (m := 9223372036854775808)
        rw [decide_eq_true (show 9223372036854775808 ≤ x by omega)] at this
        exact of_decide_eq_true this
      exact WSm_B n x _ _ rfl rfl hc0 hd0 hn (sg_id jn) (sg_id ix) hA hB w hG
end Go.Proofs.YtgddpkopbiendaaDoor
