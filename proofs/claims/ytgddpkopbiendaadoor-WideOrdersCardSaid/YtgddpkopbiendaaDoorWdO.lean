/- The walk of gromalaw01's WideOrders. Conditions: the numbers are numbers of 256 bits; the table of powers lies as laid. -/
import Derived.Test.YtgddpkopbiendaaDoorWdB
namespace Go.Proofs.YtgddpkopbiendaaDoor
open Go.RowKit

set_option maxRecDepth 100000 in
set_option maxHeartbeats 4000000 in
theorem WOrd_go (x y c d s : Int) (hc : cmpI x y = c) (hd : cmpI y x = d) (hs : x.sign = s) (hsx : sg x = x) (hsy : sg y = y)
    (hA : ∀ w, Calls Tryd.prog 37 #[wI x, wI y] w fun e w' => e = .returned (.int .i64 c) ∧ Below w.heap.size w w')
    (hB : ∀ w, Calls Tryd.prog 37 #[wI y, wI x] w fun e w' => e = .returned (.int .i64 d) ∧ Below w.heap.size w w')
    (hC : ∀ w, Calls Tryd.prog 28 #[wI x] w fun e w' => e = .returned (.int .i64 s) ∧ Below w.heap.size w w') (w : World) (hG : Tab w) :
    Calls Tryd.prog 10 #[wI x, wI y] w fun e w' => e = .returned (.bool true) ∧ Below w.heap.size w w' := by
  have EC := Lib.hid hc
  have ED := Lib.hid hd
  have ES := Lib.hid hs
  have SX := Lib.hid hsx
  have SY := Lib.hid hsy
  have CA := Lib.hid hA
  have CB := Lib.hid hB
  have CC := Lib.hid hC
  clear hc hd hs hsx hsy hA hB hC
  go_enter Tryd.func10, Tryd.ntmps10
  go_wp2_with fail
  first | refine calls_w ?_ | refine name_world ?_
  intro W hW
  have ka : Var W (w.heap.size) x := by rw [hW]; exact (Blk.new w _ _) |>.alloc _
  have kb : Var W (w.heap.size + 1) y := by rw [hW]; exact (Blk.new1 w _ _ _)
  have hb0 : Below w.heap.size w W := by rw [hW]; exact below_a2 _ _ _
  clear hW
  have cka := Var.c ka
  have lka := ka.lt
  have ckb := Var.c kb
  have lkb := kb.lt
  have Hka := Lib.hid ka
  clear ka
  have Hkb := Lib.hid kb
  clear kb
  refine wp_region_FG2 6 4 5 [(0, 0), (0, 2), (1, 1), (1, 3)] [(3, 6), (3, 7)] (by kernel_rfl) (by kernel_rfl) (fun _ _ d _ _ => by cases d <;> exact Iff.rfl) rfl rfl rfl allocBig rfl rfl rfl allocBig rfl ?_
  have hb : Below W.heap.size W W.drew := (Below.refl _ _).drew
  iterate 2
    refine wpFG_take0 rfl rfl ?_
    go_big_quiet_step (rfl)
    refine wpQuiet_nil ?_
  refine wpFG_do rfl ?_
  intro w1 hg K hK
  replace hb := hb.trans (hg.mono hb.size)
  try replace HX := Lib.hid (HX.out.of hg)
  clear hg
  go_wp2_with ((first | (go_at_call 15; (with_reducible refine (Read_in x SX.out _).mono ?_); rintro e w5 ⟨vm, rfl, hbm, hn⟩; have HX := Lib.hid hbm; have hvm := hbm.shape; clear hbm; obtain ⟨n5, a5, q5, e5, rfl⟩ := hvm) | (go_at_call 15; (with_reducible refine (Read_in y SY.out _).mono ?_); rintro e w6 ⟨vm, rfl, hbm, hn⟩; have HY := Lib.hid hbm; have hvm := hbm.shape; replace HX := Lib.hid (HX.out.of hn); clear hbm; obtain ⟨n6, a6, q6, e6, rfl⟩ := hvm)))
  refine hK.out _ _ hn ?_
  replace hb := hb.trans (hn.mono hb.size)
  clear hK K
  clear hn
  refine wpFG_do rfl ?_
  intro w1 hg K hK
  replace hb := hb.trans (hg.mono hb.size)
  try replace HX := Lib.hid (HX.out.of hg)
  clear hg
  go_wp2_with ((first | (go_at_call 15; (with_reducible refine (Read_in x SX.out _).mono ?_); rintro e w5 ⟨vm, rfl, hbm, hn⟩; have HX := Lib.hid hbm; have hvm := hbm.shape; clear hbm; obtain ⟨n5, a5, q5, e5, rfl⟩ := hvm) | (go_at_call 15; (with_reducible refine (Read_in y SY.out _).mono ?_); rintro e w6 ⟨vm, rfl, hbm, hn⟩; have HY := Lib.hid hbm; have hvm := hbm.shape; replace HX := Lib.hid (HX.out.of hn); clear hbm; obtain ⟨n6, a6, q6, e6, rfl⟩ := hvm)))
  refine hK.out _ _ hn ?_
  replace hb := hb.trans (hn.mono hb.size)
  clear hK K
  clear hn
  refine wpFG_nil ?_
  clear hb
  intro w1 hg hb b1 b2 hne lb1 nb1 lb2 nb2
  replace HX := Lib.hid (HX.out.of hg)
  replace HY := Lib.hid (HY.out.of hg)
  clear hg
  simp only [Act.put, ptrTo, List.setIfInBounds_toArray, List.set_cons_succ, List.set_cons_zero]
  have c1 := BigVar.c (show BigVar w1 b1 false none 0 0 from nb1)
  have f1 := BigVar.f (show BigVar w1 b1 false none 0 0 from nb1)
  have c2 := BigVar.c (show BigVar w1 b2 false none 0 0 from nb2)
  have f2 := BigVar.f (show BigVar w1 b2 false none 0 0 from nb2)
  refine wpG_do3 rfl ?_
  intro K hK
  go_wp2_with (fail)
  refine hK.out _ _ ?_
  clear hK K
  refine wpG_do3 rfl ?_
  intro K hK
  go_wp2_with (fail)
  refine hK.out _ _ ?_
  clear hK K
  refine wpG_nil ?_
  clear cka lka ckb lkb
  refine list_world ?_
  intro V hV
  have g1 : BigVar w1 b1 false none 0 0 := nb1
  have g2 : BigVar w1 b2 false none 0 0 := nb2
  have h1 : b1 ≠ b2 := hne
  have m2 : BigVar ((w1.setCell ⟨b1, 0, none⟩ (.bool n5)).setCell ⟨b1, 1, none⟩ (.slice a5 q5 e5)) b2 false none 0 0 := (g2.set h1.symm _ _ _).set h1.symm _ _ _
  have kX : BigVar V b1 n5 a5 q5 e5 := by rw [hV]; exact (((Blk.put g1 0 _).put 1 _).set h1 _ _ _).set h1 _ _ _
  have kY : BigVar V b2 n6 a6 q6 e6 := by rw [hV]; exact (Blk.put m2 0 _).put 1 _
  replace HX := Lib.hid (show Big V (.agg #[.bool n5, .slice a5 q5 e5]) x 18 by rw [hV]; exact (HX.out.set2 (g1.cell 0) _ _).set2 (m2.cell 0) _ _)
  replace HY := Lib.hid (show Big V (.agg #[.bool n6, .slice a6 q6 e6]) y 18 by rw [hV]; exact (HY.out.set2 (g1.cell 0) _ _).set2 (m2.cell 0) _ _)
  have hbV : Below W.heap.size W V := by rw [hV]; exact set2_below (set2_below hb lb1 _ _) lb2 _ _
  have ka := Hka.out.of hbV
  clear Hka
  have kb := Hkb.out.of hbV
  clear Hkb
  replace hb0 := hb0.trans (hbV.mono hb0.size)
  clear hV g1 g2 m2 h1 hne nb1 nb2 c1 f1 c2 f2 lb1 lb2 hb hbV
  have cka := Var.c ka
  have lka := ka.lt
  have ckb := Var.c kb
  have lkb := kb.lt
  have ckX := BigVar.c kX
  have lkX := kX.lt
  have ckY := BigVar.c kY
  have lkY := kY.lt
  go_wp2_with fail
  clear cka lka ckb lkb ckX lkX ckY lkY
  have cka := Var.c ka
  have lka := ka.lt
  have ckb := Var.c kb
  have lkb := kb.lt
  have ckX := BigVar.c kX
  have lkX := kX.lt
  have ckY := BigVar.c kY
  have lkY := kY.lt
  have Hka := Lib.hid ka
  clear ka
  have Hkb := Lib.hid kb
  clear kb
  have HkX := Lib.hid kX
  clear kX
  have HkY := Lib.hid kY
  clear kY
  refine wp_region_up V.heap.size 20 [(true, 0), (true, 1), (true, 3), (true, 4), (false, 2), (false, 5), (true, 6), (true, 7), (true, 8), (true, 9), (true, 11), (true, 12), (false, 10), (false, 13), (true, 14), (true, 15), (true, 16), (true, 17), (true, 19), (false, 18)] (by kernel_rfl) (by kernel_rfl) (fun _ _ d _ _ h => by cases d <;> exact h) ?_
  have hb : Below V.heap.size V V.drew := (Below.refl _ _).drew
  iterate 4
    refine wpS_takeL rfl rfl ?_
    go_big_quiet_step (rfl)
    refine wpQuiet_nil ?_
  refine wpS_doL rfl ?_
  intro K hK
  go_wp2_with ((first | (go_at_call 37; (with_reducible refine (CA.out _).mono ?_); rintro e w7 ⟨rfl, hn⟩) | (go_at_call 37; (with_reducible refine (CB.out _).mono ?_); rintro e w7 ⟨rfl, hn⟩) | (go_at_call 28; (with_reducible refine (CC.out _).mono ?_); rintro e w7 ⟨rfl, hn⟩) | (go_at_call 19; (with_reducible refine (bigCmp_is (.agg #[.bool n5, .slice a5 q5 e5]) (.agg #[.bool n6, .slice a6 q6 e6]) x y 18 18 c EC.out _ (HX.out.of hb) (HY.out.of hb)).mono ?_); rintro e w7 ⟨rfl, hn⟩) | (go_at_call 19; (with_reducible refine (bigCmp_is (.agg #[.bool n6, .slice a6 q6 e6]) (.agg #[.bool n5, .slice a5 q5 e5]) y x 18 18 d ED.out _ (HY.out.of hb) (HX.out.of hb)).mono ?_); rintro e w7 ⟨rfl, hn⟩)))
  replace hb := hb.trans (hn.mono hb.size)
  refine hK.out _ _ (up_iff.2 hb) ?_
  clear hK K
  clear hn
  refine wpS_doL rfl ?_
  intro K hK
  go_wp2_with ((first | (go_at_call 37; (with_reducible refine (CA.out _).mono ?_); rintro e w7 ⟨rfl, hn⟩) | (go_at_call 37; (with_reducible refine (CB.out _).mono ?_); rintro e w7 ⟨rfl, hn⟩) | (go_at_call 28; (with_reducible refine (CC.out _).mono ?_); rintro e w7 ⟨rfl, hn⟩) | (go_at_call 19; (with_reducible refine (bigCmp_is (.agg #[.bool n5, .slice a5 q5 e5]) (.agg #[.bool n6, .slice a6 q6 e6]) x y 18 18 c EC.out _ (HX.out.of hb) (HY.out.of hb)).mono ?_); rintro e w7 ⟨rfl, hn⟩) | (go_at_call 19; (with_reducible refine (bigCmp_is (.agg #[.bool n6, .slice a6 q6 e6]) (.agg #[.bool n5, .slice a5 q5 e5]) y x 18 18 d ED.out _ (HY.out.of hb) (HX.out.of hb)).mono ?_); rintro e w7 ⟨rfl, hn⟩)))
  replace hb := hb.trans (hn.mono hb.size)
  refine hK.out _ _ (up_iff.2 hb) ?_
  clear hK K
  clear hn
  iterate 6
    refine wpS_takeL rfl rfl ?_
    go_big_quiet_step (rfl)
    refine wpQuiet_nil ?_
  refine wpS_doL rfl ?_
  intro K hK
  go_wp2_with ((first | (go_at_call 37; (with_reducible refine (CA.out _).mono ?_); rintro e w7 ⟨rfl, hn⟩) | (go_at_call 37; (with_reducible refine (CB.out _).mono ?_); rintro e w7 ⟨rfl, hn⟩) | (go_at_call 28; (with_reducible refine (CC.out _).mono ?_); rintro e w7 ⟨rfl, hn⟩) | (go_at_call 19; (with_reducible refine (bigCmp_is (.agg #[.bool n5, .slice a5 q5 e5]) (.agg #[.bool n6, .slice a6 q6 e6]) x y 18 18 c EC.out _ (HX.out.of hb) (HY.out.of hb)).mono ?_); rintro e w7 ⟨rfl, hn⟩) | (go_at_call 19; (with_reducible refine (bigCmp_is (.agg #[.bool n6, .slice a6 q6 e6]) (.agg #[.bool n5, .slice a5 q5 e5]) y x 18 18 d ED.out _ (HY.out.of hb) (HX.out.of hb)).mono ?_); rintro e w7 ⟨rfl, hn⟩)))
  try replace hb := hb.trans (hn.mono hb.size)
  refine hK.out _ _ (up_iff.2 hb) ?_
  clear hK K
  try clear hn
  refine wpS_doL rfl ?_
  intro K hK
  go_wp2_with ((first | (go_at_call 37; (with_reducible refine (CA.out _).mono ?_); rintro e w7 ⟨rfl, hn⟩) | (go_at_call 37; (with_reducible refine (CB.out _).mono ?_); rintro e w7 ⟨rfl, hn⟩) | (go_at_call 28; (with_reducible refine (CC.out _).mono ?_); rintro e w7 ⟨rfl, hn⟩) | (go_at_call 19; (with_reducible refine (bigCmp_is (.agg #[.bool n5, .slice a5 q5 e5]) (.agg #[.bool n6, .slice a6 q6 e6]) x y 18 18 c EC.out _ (HX.out.of hb) (HY.out.of hb)).mono ?_); rintro e w7 ⟨rfl, hn⟩) | (go_at_call 19; (with_reducible refine (bigCmp_is (.agg #[.bool n6, .slice a6 q6 e6]) (.agg #[.bool n5, .slice a5 q5 e5]) y x 18 18 d ED.out _ (HY.out.of hb) (HX.out.of hb)).mono ?_); rintro e w7 ⟨rfl, hn⟩)))
  try replace hb := hb.trans (hn.mono hb.size)
  refine hK.out _ _ (up_iff.2 hb) ?_
  clear hK K
  try clear hn
  iterate 5
    refine wpS_takeL rfl rfl ?_
    go_big_quiet_step (rfl)
    refine wpQuiet_nil ?_
  refine wpS_doL rfl ?_
  intro K hK
  go_wp2_with ((first | (go_at_call 37; (with_reducible refine (CA.out _).mono ?_); rintro e w7 ⟨rfl, hn⟩) | (go_at_call 37; (with_reducible refine (CB.out _).mono ?_); rintro e w7 ⟨rfl, hn⟩) | (go_at_call 28; (with_reducible refine (CC.out _).mono ?_); rintro e w7 ⟨rfl, hn⟩) | (go_at_call 19; (with_reducible refine (bigCmp_is (.agg #[.bool n5, .slice a5 q5 e5]) (.agg #[.bool n6, .slice a6 q6 e6]) x y 18 18 c EC.out _ (HX.out.of hb) (HY.out.of hb)).mono ?_); rintro e w7 ⟨rfl, hn⟩) | (go_at_call 19; (with_reducible refine (bigCmp_is (.agg #[.bool n6, .slice a6 q6 e6]) (.agg #[.bool n5, .slice a5 q5 e5]) y x 18 18 d ED.out _ (HY.out.of hb) (HX.out.of hb)).mono ?_); rintro e w7 ⟨rfl, hn⟩)))
  try replace hb := hb.trans (hn.mono hb.size)
  refine hK.out _ _ (up_iff.2 hb) ?_
  clear hK K
  try clear hn
  refine wpS_nil ?_
  simp only [List.drop_succ_cons, List.drop_zero]
  replace HX := Lib.hid (HX.out.of hb)
  replace HY := Lib.hid (HY.out.of hb)
  have ka := Hka.out.of hb
  clear Hka
  have kb := Hkb.out.of hb
  clear Hkb
  have kX := HkX.out.of hb
  clear HkX
  have kY := HkY.out.of hb
  clear HkY
  replace hb0 := hb0.trans (hb.mono hb0.size)
  clear hb
  clear cka lka ckb lkb ckX lkX ckY lkY
  go_wp2_with fail
  clear kX kY ka kb
  refine (bigSign_is (.agg #[.bool n5, .slice a5 q5 e5]) x 18 s ES.out _ HX.out).mono ?_
  rintro e u9 ⟨rfl, hn⟩
  replace HX := Lib.hid (HX.out.of hn)
  replace HY := Lib.hid (HY.out.of hn)
  replace hb0 := hb0.trans (hn.mono hb0.size)
  clear hn
  go_wp2_with fail
  refine (wawake_any _ (hG.of hb0)).mono ?_
  rintro e wz ⟨rfl, hn⟩
  replace hb0 := hb0.trans (hn.mono hb0.size)
  clear hn
  go_wp2
  go_ret
  exact ⟨by simp, hb0⟩
theorem WOrd_any (x y : Int) (w : World) (hG : Tab w) (ix : InI x) (iy : InI y) :
    Calls Tryd.prog 10 #[wI x, wI y] w fun e w' => e = .returned (.bool true) ∧ Below w.heap.size w w' :=
  WOrd_go x y _ _ _ rfl rfl rfl (sg_id ix) (sg_id iy) (fun w => Cmp_any x y w ix iy) (fun w => Cmp_any y x w iy ix) (fun w => Sign_any x w ix) w hG
end Go.Proofs.YtgddpkopbiendaaDoor
