/- The walk of gromalaw01's WideDivides. Conditions: the numbers are numbers of 256 bits; the table of powers lies as laid. -/
import Derived.Test.YtgddpkopbiendaaDoorWdC
namespace Go.Proofs.YtgddpkopbiendaaDoor
open Go.RowKit

theorem pow255 (w : World) : Calls Tryd.prog 21 #[.int .i64 255] w (GivesBig w b255 18) := by
  have h := Power_any 255 w (by decide)
  rw [p255] at h
  exact h
theorem dv_no {x y : Int} (ix : InI x) (h : dvOk x y = false) : y = 0 ∨ x = -b255 ∧ y = -1 := by
  by_cases hy : y = 0
  · exact .inl hy
  · have h2 : b255 ≤ fq x y := by
      unfold dvOk at h
      simp only [Bool.and_eq_false_iff, decide_eq_false_iff_not] at h
      rcases h with h | h
      · exact absurd hy h
      · omega
    have e := fq_fr x y
    obtain ⟨i1, i2⟩ := ix
    rcases Int.lt_or_gt_of_ne hy with hn | hp
    · have := fr_neg (x := x) hn
      have hm : fq x y * y ≤ b255 * y := by
        have := Int.mul_le_mul_of_nonpos_right h2 (show y ≤ 0 by omega)
        exact this
      unfold b255 at *
      exact .inr (by omega)
    · have := fr_pos (x := x) hp
      have hm : b255 * y ≤ fq x y * y := Int.mul_le_mul_of_nonneg_right h2 (by omega)
      unfold b255 at *
      omega
theorem fq_in {x y : Int} (ix : InI x) (iy : InI y) (h : dvOk x y = true) : InI (fq x y) ∧ InI (fr x y) := by
  unfold dvOk at h
  simp only [Bool.and_eq_true, decide_eq_true_eq] at h
  obtain ⟨s1, _, n0, n1, _, _⟩ := dv_spec ix iy h.1
  refine ⟨⟨?_, h.2⟩, ?_⟩
  · rw [← s1]
    clear s1
    generalize (ng x != ng y) = u at n0 n1 ⊢
    cases u
    · rw [cond_false]; unfold b255 at *; omega
    · rw [cond_true]; unfold b255 at *; omega
  · obtain ⟨j1, j2⟩ := iy
    rcases Int.lt_or_gt_of_ne h.1 with hn | hp
    · have := fr_neg (x := x) hn; unfold b255 at *; exact ⟨by unfold b255; omega, by unfold b255; omega⟩
    · have := fr_pos (x := x) hp; unfold b255 at *; exact ⟨by unfold b255; omega, by unfold b255; omega⟩
set_option maxRecDepth 100000 in
set_option maxHeartbeats 4000000 in
theorem WDiv_bad (x y s c d : Int) (z g h : Bool) (hs : y.sign = s) (hz : (s == 0) = z) (hc : cmpI x (-b255) = c) (hg : (c == 0) = g) (hd : cmpI y (-1) = d) (hh : (d == 0) = h) (hor : (z || (g && h)) = true) (hsx : sg x = x) (hsy : sg y = y)
    (hA : ∀ w, Calls Tryd.prog 17 #[wI x, wI y] w fun e w' => e = .returned (.tuple #[wI 0, wI 0, .bool false]) ∧ Below w.heap.size w w') (w : World) (hG : Tab w) :
    Calls Tryd.prog 4 #[wI x, wI y] w fun e w' => e = .returned (.bool true) ∧ Below w.heap.size w w' := by
  have ES := Lib.hid hs
  have EC := Lib.hid hc
  have ED := Lib.hid hd
  have SX := Lib.hid hsx
  have SY := Lib.hid hsy
  have CA := Lib.hid hA
  clear hs hc hd hsx hsy hA
  go_enter Tryd.func4, Tryd.ntmps4
  go_wp2_with fail
  first | refine calls_w ?_ | refine name_world ?_
  intro W hW
  have ka : Var W (w.heap.size) x := by rw [hW]; exact (Blk.new w _ _) |>.alloc _
  have kb : Var W (w.heap.size + 1) y := by rw [hW]; exact (Blk.new1 w _ _ _)
  have hb0 : Below w.heap.size w W := by rw [hW]; exact below_a2 _ _ _
  clear hW
  have cka := Var.c ka
  have lka := ka.lt
  have ckb := Var.c kb
  have lkb := kb.lt
  have Hka := Lib.hid ka
  clear ka
  have Hkb := Lib.hid kb
  clear kb
  refine wp_region_FG2 6 4 5 [(0, 0), (0, 2), (1, 1), (1, 3)] [(3, 6), (3, 7)] (by kernel_rfl) (by kernel_rfl) (fun _ _ d _ _ => by cases d <;> exact Iff.rfl) rfl rfl rfl allocBig rfl rfl rfl allocBig rfl ?_
  have hb : Below W.heap.size W W.drew := (Below.refl _ _).drew
  iterate 2
    refine wpFG_take0 rfl rfl ?_
    go_big_quiet_step (rfl)
    refine wpQuiet_nil ?_
  refine wpFG_do rfl ?_
  intro w1 hg K hK
  replace hb := hb.trans (hg.mono hb.size)
  try replace HX := Lib.hid (HX.out.of hg)
  clear hg
  go_wp2_with ((first | (go_at_call 15; (with_reducible refine (Read_in x SX.out _).mono ?_); rintro e w5 ⟨vm, rfl, hbm, hn⟩; have HX := Lib.hid hbm; have hvm := hbm.shape; clear hbm; obtain ⟨n5, a5, q5, e5, rfl⟩ := hvm) | (go_at_call 15; (with_reducible refine (Read_in y SY.out _).mono ?_); rintro e w6 ⟨vm, rfl, hbm, hn⟩; have HY := Lib.hid hbm; have hvm := hbm.shape; replace HX := Lib.hid (HX.out.of hn); clear hbm; obtain ⟨n6, a6, q6, e6, rfl⟩ := hvm)))
  refine hK.out _ _ hn ?_
  replace hb := hb.trans (hn.mono hb.size)
  clear hK K
  clear hn
  refine wpFG_do rfl ?_
  intro w1 hg K hK
  replace hb := hb.trans (hg.mono hb.size)
  try replace HX := Lib.hid (HX.out.of hg)
  clear hg
  go_wp2_with ((first | (go_at_call 15; (with_reducible refine (Read_in x SX.out _).mono ?_); rintro e w5 ⟨vm, rfl, hbm, hn⟩; have HX := Lib.hid hbm; have hvm := hbm.shape; clear hbm; obtain ⟨n5, a5, q5, e5, rfl⟩ := hvm) | (go_at_call 15; (with_reducible refine (Read_in y SY.out _).mono ?_); rintro e w6 ⟨vm, rfl, hbm, hn⟩; have HY := Lib.hid hbm; have hvm := hbm.shape; replace HX := Lib.hid (HX.out.of hn); clear hbm; obtain ⟨n6, a6, q6, e6, rfl⟩ := hvm)))
  refine hK.out _ _ hn ?_
  replace hb := hb.trans (hn.mono hb.size)
  clear hK K
  clear hn
  refine wpFG_nil ?_
  clear hb
  intro w1 hg hb b1 b2 hne lb1 nb1 lb2 nb2
  replace HX := Lib.hid (HX.out.of hg)
  replace HY := Lib.hid (HY.out.of hg)
  clear hg
  simp only [Act.put, ptrTo, List.setIfInBounds_toArray, List.set_cons_succ, List.set_cons_zero]
  have c1 := BigVar.c (show BigVar w1 b1 false none 0 0 from nb1)
  have f1 := BigVar.f (show BigVar w1 b1 false none 0 0 from nb1)
  have c2 := BigVar.c (show BigVar w1 b2 false none 0 0 from nb2)
  have f2 := BigVar.f (show BigVar w1 b2 false none 0 0 from nb2)
  refine wpG_do3 rfl ?_
  intro K hK
  go_wp2_with (fail)
  refine hK.out _ _ ?_
  clear hK K
  refine wpG_do3 rfl ?_
  intro K hK
  go_wp2_with (fail)
  refine hK.out _ _ ?_
  clear hK K
  refine wpG_nil ?_
  clear cka lka ckb lkb
  refine list_world ?_
  intro V hV
  have g1 : BigVar w1 b1 false none 0 0 := nb1
  have g2 : BigVar w1 b2 false none 0 0 := nb2
  have h1 : b1 ≠ b2 := hne
  have m2 : BigVar ((w1.setCell ⟨b1, 0, none⟩ (.bool n5)).setCell ⟨b1, 1, none⟩ (.slice a5 q5 e5)) b2 false none 0 0 := (g2.set h1.symm _ _ _).set h1.symm _ _ _
  have kX : BigVar V b1 n5 a5 q5 e5 := by rw [hV]; exact (((Blk.put g1 0 _).put 1 _).set h1 _ _ _).set h1 _ _ _
  have kY : BigVar V b2 n6 a6 q6 e6 := by rw [hV]; exact (Blk.put m2 0 _).put 1 _
  replace HX := Lib.hid (show Big V (.agg #[.bool n5, .slice a5 q5 e5]) x 18 by rw [hV]; exact (HX.out.set2 (g1.cell 0) _ _).set2 (m2.cell 0) _ _)
  replace HY := Lib.hid (show Big V (.agg #[.bool n6, .slice a6 q6 e6]) y 18 by rw [hV]; exact (HY.out.set2 (g1.cell 0) _ _).set2 (m2.cell 0) _ _)
  have hbV : Below W.heap.size W V := by rw [hV]; exact set2_below (set2_below hb lb1 _ _) lb2 _ _
  have ka := Hka.out.of hbV
  clear Hka
  have kb := Hkb.out.of hbV
  clear Hkb
  replace hb0 := hb0.trans (hbV.mono hb0.size)
  clear hV g1 g2 m2 h1 hne nb1 nb2 c1 f1 c2 f2 lb1 lb2 hb hbV
  have cka := Var.c ka
  have lka := ka.lt
  have ckb := Var.c kb
  have lkb := kb.lt
  have ckX := BigVar.c kX
  have lkX := kX.lt
  have ckY := BigVar.c kY
  have lkY := kY.lt
  go_wp2_with fail
  clear cka lka ckb lkb ckX lkX ckY lkY
  refine (CA.out _).mono ?_
  rintro e u1 ⟨rfl, hn⟩
  replace ka := ka.of hn
  replace kb := kb.of hn
  replace kX := kX.of hn
  replace kY := kY.of hn
  replace HX := Lib.hid (HX.out.of hn)
  replace HY := Lib.hid (HY.out.of hn)
  replace hb0 := hb0.trans (hn.mono hb0.size)
  clear hn
  have cka := Var.c ka
  have lka := ka.lt
  have ckb := Var.c kb
  have lkb := kb.lt
  have ckX := BigVar.c kX
  have lkX := kX.lt
  have ckY := BigVar.c kY
  have lkY := kY.lt
  go_wp2_with fail
  clear cka lka ckb lkb ckX lkX ckY lkY
  first | refine calls_w ?_ | refine name_world ?_
  intro V1 hV1
  have kq : Var V1 (u1.heap.size) 0 := by rw [hV1]; exact (Blk.new _ _ _) |>.alloc _
  have kr : Var V1 (u1.heap.size + 1) 0 := by rw [hV1]; exact (Blk.new1 _ _ _ _)
  have hn : Below u1.heap.size u1 V1 := by rw [hV1]; exact below_a2 _ _ _
  replace ka := ka.of hn
  replace kb := kb.of hn
  replace kX := kX.of hn
  replace kY := kY.of hn
  replace HX := Lib.hid (HX.out.of hn)
  replace HY := Lib.hid (HY.out.of hn)
  replace hb0 := hb0.trans (hn.mono hb0.size)
  clear hn hV1
  refine (bigSign_is (.agg #[.bool n6, .slice a6 q6 e6]) y 18 s ES.out _ HY.out).mono ?_
  rintro e u2 ⟨rfl, hn⟩
  replace ka := ka.of hn
  replace kb := kb.of hn
  replace kX := kX.of hn
  replace kY := kY.of hn
  replace kq := kq.of hn
  replace kr := kr.of hn
  replace HX := Lib.hid (HX.out.of hn)
  replace HY := Lib.hid (HY.out.of hn)
  replace hb0 := hb0.trans (hn.mono hb0.size)
  clear hn
  have cka := Var.c ka
  have lka := ka.lt
  have ckb := Var.c kb
  have lkb := kb.lt
  have ckX := BigVar.c kX
  have lkX := kX.lt
  have ckY := BigVar.c kY
  have lkY := kY.lt
  have ckq := Var.c kq
  have lkq := kq.lt
  have ckr := Var.c kr
  have lkr := kr.lt
  go_wp2_with fail
  clear cka lka ckb lkb ckX lkX ckY lkY ckq lkq ckr lkr
  cases g
  · obtain rfl : z = true := by simpa using hor
    have cka := Var.c ka
    have lka := ka.lt
    have ckb := Var.c kb
    have lkb := kb.lt
    have ckX := BigVar.c kX
    have lkX := kX.lt
    have ckY := BigVar.c kY
    have lkY := kY.lt
    have ckq := Var.c kq
    have lkq := kq.lt
    have ckr := Var.c kr
    have lkr := kr.lt
    have Hka := Lib.hid ka
    clear ka
    have Hkb := Lib.hid kb
    clear kb
    have HkX := Lib.hid kX
    clear kX
    have HkY := Lib.hid kY
    clear kY
    have Hkq := Lib.hid kq
    clear kq
    have Hkr := Lib.hid kr
    clear kr
    refine wp_region_up u2.heap.size 8 [(true, 0), (false, 1), (false, 2), (false, 3), (true, 4), (true, 5), (true, 6), (false, 7)] (by kernel_rfl) (by kernel_rfl) (fun _ _ d _ _ h => by cases d <;> exact h) ?_
    have hb : Below u2.heap.size u2 u2.drew := (Below.refl _ _).drew
    refine wpS_takeL rfl rfl ?_
    go_big_quiet_step (rfl)
    refine wpQuiet_nil ?_
    refine wpS_doL rfl ?_
    intro K hK
    go_wp2_with ((first | (go_at_call 21; (with_reducible refine (pow255 _).mono ?_); rintro e w8 ⟨vmHP, rfl, hbm, hn⟩; have HP := Lib.hid hbm; clear hbm) | (go_at_call 20; (with_reducible refine (Minus_any _ b255 _ _ HP.out).mono ?_); rintro e w8 ⟨vmHQ, rfl, hbm, hn⟩; have HQ := Lib.hid hbm; clear hbm) | (go_at_call 19; (with_reducible refine (bigCmp_is (.agg #[.bool n5, .slice a5 q5 e5]) _ x (-b255) 18 _ c EC.out _ (HX.out.of hb) HQ.out).mono ?_); rintro e w7 ⟨rfl, hn⟩) | (go_at_call 22; (with_reducible refine (bigOf_any (-1) _ (by unfold In64; omega)).mono ?_); rintro e w8 ⟨vmHO, rfl, hbm, hn⟩; have HO := Lib.hid hbm; clear hbm)))
    replace hb := hb.trans (hn.mono hb.size)
    refine hK.out _ _ (up_iff.2 hb) ?_
    clear hK K
    clear hn
    refine wpS_doL rfl ?_
    intro K hK
    go_wp2_with ((first | (go_at_call 21; (with_reducible refine (pow255 _).mono ?_); rintro e w8 ⟨vmHP, rfl, hbm, hn⟩; have HP := Lib.hid hbm; clear hbm) | (go_at_call 20; (with_reducible refine (Minus_any _ b255 _ _ HP.out).mono ?_); rintro e w8 ⟨vmHQ, rfl, hbm, hn⟩; have HQ := Lib.hid hbm; clear hbm) | (go_at_call 19; (with_reducible refine (bigCmp_is (.agg #[.bool n5, .slice a5 q5 e5]) _ x (-b255) 18 _ c EC.out _ (HX.out.of hb) HQ.out).mono ?_); rintro e w7 ⟨rfl, hn⟩) | (go_at_call 22; (with_reducible refine (bigOf_any (-1) _ (by unfold In64; omega)).mono ?_); rintro e w8 ⟨vmHO, rfl, hbm, hn⟩; have HO := Lib.hid hbm; clear hbm)))
    replace hb := hb.trans (hn.mono hb.size)
    refine hK.out _ _ (up_iff.2 hb) ?_
    clear hK K
    clear hn
    refine wpS_doL rfl ?_
    intro K hK
    go_wp2_with ((first | (go_at_call 21; (with_reducible refine (pow255 _).mono ?_); rintro e w8 ⟨vmHP, rfl, hbm, hn⟩; have HP := Lib.hid hbm; clear hbm) | (go_at_call 20; (with_reducible refine (Minus_any _ b255 _ _ HP.out).mono ?_); rintro e w8 ⟨vmHQ, rfl, hbm, hn⟩; have HQ := Lib.hid hbm; clear hbm) | (go_at_call 19; (with_reducible refine (bigCmp_is (.agg #[.bool n5, .slice a5 q5 e5]) _ x (-b255) 18 _ c EC.out _ (HX.out.of hb) HQ.out).mono ?_); rintro e w7 ⟨rfl, hn⟩) | (go_at_call 22; (with_reducible refine (bigOf_any (-1) _ (by unfold In64; omega)).mono ?_); rintro e w8 ⟨vmHO, rfl, hbm, hn⟩; have HO := Lib.hid hbm; clear hbm)))
    replace hb := hb.trans (hn.mono hb.size)
    refine hK.out _ _ (up_iff.2 hb) ?_
    clear hK K
    clear hn
    iterate 3
      refine wpS_takeL rfl rfl ?_
      go_big_quiet_step (rfl)
      refine wpQuiet_nil ?_
    refine wpS_doL rfl ?_
    intro K hK
    go_wp2_with ((first | (go_at_call 21; (with_reducible refine (pow255 _).mono ?_); rintro e w8 ⟨vmHP, rfl, hbm, hn⟩; have HP := Lib.hid hbm; clear hbm) | (go_at_call 20; (with_reducible refine (Minus_any _ b255 _ _ HP.out).mono ?_); rintro e w8 ⟨vmHQ, rfl, hbm, hn⟩; have HQ := Lib.hid hbm; clear hbm) | (go_at_call 19; (with_reducible refine (bigCmp_is (.agg #[.bool n5, .slice a5 q5 e5]) _ x (-b255) 18 _ c EC.out _ (HX.out.of hb) HQ.out).mono ?_); rintro e w7 ⟨rfl, hn⟩) | (go_at_call 22; (with_reducible refine (bigOf_any (-1) _ (by unfold In64; omega)).mono ?_); rintro e w8 ⟨vmHO, rfl, hbm, hn⟩; have HO := Lib.hid hbm; clear hbm)))
    try replace hb := hb.trans (hn.mono hb.size)
    refine hK.out _ _ (up_iff.2 hb) ?_
    clear hK K
    try clear hn
    refine wpS_nil ?_
    simp only [List.drop_succ_cons, List.drop_zero]
    replace HX := Lib.hid (HX.out.of hb)
    replace HY := Lib.hid (HY.out.of hb)
    have ka := Hka.out.of hb
    clear Hka
    have kb := Hkb.out.of hb
    clear Hkb
    have kX := HkX.out.of hb
    clear HkX
    have kY := HkY.out.of hb
    clear HkY
    have kq := Hkq.out.of hb
    clear Hkq
    have kr := Hkr.out.of hb
    clear Hkr
    replace hb0 := hb0.trans (hb.mono hb0.size)
    clear hb
    clear cka lka ckb lkb ckX lkX ckY lkY ckq lkq ckr lkr
    have e0 : eq4 (wd0 0) (wd1 0) (wd2 0) (wd3 0) 0 0 0 0 = true := by kernel_rfl
    have ckq := Var.c kq
    have lkq := kq.lt
    have ckr := Var.c kr
    have lkr := kr.lt
    go_wp2_with fail
    refine (wawake_any _ (hG.of hb0)).mono ?_
    rintro e wz ⟨rfl, hn⟩
    replace hb0 := hb0.trans (hn.mono hb0.size)
    clear hn
    go_wp2
    go_ret
    exact ⟨by simp, hb0⟩
  · have cka := Var.c ka
    have lka := ka.lt
    have ckb := Var.c kb
    have lkb := kb.lt
    have ckX := BigVar.c kX
    have lkX := kX.lt
    have ckY := BigVar.c kY
    have lkY := kY.lt
    have ckq := Var.c kq
    have lkq := kq.lt
    have ckr := Var.c kr
    have lkr := kr.lt
    have Hka := Lib.hid ka
    clear ka
    have Hkb := Lib.hid kb
    clear kb
    have HkX := Lib.hid kX
    clear kX
    have HkY := Lib.hid kY
    clear kY
    have Hkq := Lib.hid kq
    clear kq
    have Hkr := Lib.hid kr
    clear kr
    refine wp_region_up u2.heap.size 8 [(true, 0), (false, 1), (false, 2), (false, 3), (true, 4), (true, 5), (true, 6), (false, 7)] (by kernel_rfl) (by kernel_rfl) (fun _ _ d _ _ h => by cases d <;> exact h) ?_
    have hb : Below u2.heap.size u2 u2.drew := (Below.refl _ _).drew
    refine wpS_takeL rfl rfl ?_
    go_big_quiet_step (rfl)
    refine wpQuiet_nil ?_
    refine wpS_doL rfl ?_
    intro K hK
    go_wp2_with ((first | (go_at_call 21; (with_reducible refine (pow255 _).mono ?_); rintro e w8 ⟨vmHP, rfl, hbm, hn⟩; have HP := Lib.hid hbm; clear hbm) | (go_at_call 20; (with_reducible refine (Minus_any _ b255 _ _ HP.out).mono ?_); rintro e w8 ⟨vmHQ, rfl, hbm, hn⟩; have HQ := Lib.hid hbm; clear hbm) | (go_at_call 19; (with_reducible refine (bigCmp_is (.agg #[.bool n5, .slice a5 q5 e5]) _ x (-b255) 18 _ c EC.out _ (HX.out.of hb) HQ.out).mono ?_); rintro e w7 ⟨rfl, hn⟩) | (go_at_call 22; (with_reducible refine (bigOf_any (-1) _ (by unfold In64; omega)).mono ?_); rintro e w8 ⟨vmHO, rfl, hbm, hn⟩; have HO := Lib.hid hbm; clear hbm)))
    replace hb := hb.trans (hn.mono hb.size)
    refine hK.out _ _ (up_iff.2 hb) ?_
    clear hK K
    clear hn
    refine wpS_doL rfl ?_
    intro K hK
    go_wp2_with ((first | (go_at_call 21; (with_reducible refine (pow255 _).mono ?_); rintro e w8 ⟨vmHP, rfl, hbm, hn⟩; have HP := Lib.hid hbm; clear hbm) | (go_at_call 20; (with_reducible refine (Minus_any _ b255 _ _ HP.out).mono ?_); rintro e w8 ⟨vmHQ, rfl, hbm, hn⟩; have HQ := Lib.hid hbm; clear hbm) | (go_at_call 19; (with_reducible refine (bigCmp_is (.agg #[.bool n5, .slice a5 q5 e5]) _ x (-b255) 18 _ c EC.out _ (HX.out.of hb) HQ.out).mono ?_); rintro e w7 ⟨rfl, hn⟩) | (go_at_call 22; (with_reducible refine (bigOf_any (-1) _ (by unfold In64; omega)).mono ?_); rintro e w8 ⟨vmHO, rfl, hbm, hn⟩; have HO := Lib.hid hbm; clear hbm)))
    replace hb := hb.trans (hn.mono hb.size)
    refine hK.out _ _ (up_iff.2 hb) ?_
    clear hK K
    clear hn
    refine wpS_doL rfl ?_
    intro K hK
    go_wp2_with ((first | (go_at_call 21; (with_reducible refine (pow255 _).mono ?_); rintro e w8 ⟨vmHP, rfl, hbm, hn⟩; have HP := Lib.hid hbm; clear hbm) | (go_at_call 20; (with_reducible refine (Minus_any _ b255 _ _ HP.out).mono ?_); rintro e w8 ⟨vmHQ, rfl, hbm, hn⟩; have HQ := Lib.hid hbm; clear hbm) | (go_at_call 19; (with_reducible refine (bigCmp_is (.agg #[.bool n5, .slice a5 q5 e5]) _ x (-b255) 18 _ c EC.out _ (HX.out.of hb) HQ.out).mono ?_); rintro e w7 ⟨rfl, hn⟩) | (go_at_call 22; (with_reducible refine (bigOf_any (-1) _ (by unfold In64; omega)).mono ?_); rintro e w8 ⟨vmHO, rfl, hbm, hn⟩; have HO := Lib.hid hbm; clear hbm)))
    replace hb := hb.trans (hn.mono hb.size)
    refine hK.out _ _ (up_iff.2 hb) ?_
    clear hK K
    clear hn
    iterate 3
      refine wpS_takeL rfl rfl ?_
      go_big_quiet_step (rfl)
      refine wpQuiet_nil ?_
    refine wpS_doL rfl ?_
    intro K hK
    go_wp2_with ((first | (go_at_call 21; (with_reducible refine (pow255 _).mono ?_); rintro e w8 ⟨vmHP, rfl, hbm, hn⟩; have HP := Lib.hid hbm; clear hbm) | (go_at_call 20; (with_reducible refine (Minus_any _ b255 _ _ HP.out).mono ?_); rintro e w8 ⟨vmHQ, rfl, hbm, hn⟩; have HQ := Lib.hid hbm; clear hbm) | (go_at_call 19; (with_reducible refine (bigCmp_is (.agg #[.bool n5, .slice a5 q5 e5]) _ x (-b255) 18 _ c EC.out _ (HX.out.of hb) HQ.out).mono ?_); rintro e w7 ⟨rfl, hn⟩) | (go_at_call 22; (with_reducible refine (bigOf_any (-1) _ (by unfold In64; omega)).mono ?_); rintro e w8 ⟨vmHO, rfl, hbm, hn⟩; have HO := Lib.hid hbm; clear hbm)))
    try replace hb := hb.trans (hn.mono hb.size)
    refine hK.out _ _ (up_iff.2 hb) ?_
    clear hK K
    try clear hn
    refine wpS_nil ?_
    simp only [List.drop_succ_cons, List.drop_zero]
    replace HX := Lib.hid (HX.out.of hb)
    replace HY := Lib.hid (HY.out.of hb)
    have ka := Hka.out.of hb
    clear Hka
    have kb := Hkb.out.of hb
    clear Hkb
    have kX := HkX.out.of hb
    clear HkX
    have kY := HkY.out.of hb
    clear HkY
    have kq := Hkq.out.of hb
    clear Hkq
    have kr := Hkr.out.of hb
    clear Hkr
    replace hb0 := hb0.trans (hb.mono hb0.size)
    clear hb
    clear cka lka ckb lkb ckX lkX ckY lkY ckq lkq ckr lkr
    have cka := Var.c ka
    have lka := ka.lt
    have ckb := Var.c kb
    have lkb := kb.lt
    have ckX := BigVar.c kX
    have lkX := kX.lt
    have ckY := BigVar.c kY
    have lkY := kY.lt
    have ckq := Var.c kq
    have lkq := kq.lt
    have ckr := Var.c kr
    have lkr := kr.lt
    go_wp2_with fail
    clear cka lka ckb lkb ckX lkX ckY lkY ckq lkq ckr lkr
    refine (bigCmp_is (.agg #[.bool n6, .slice a6 q6 e6]) _ y (-1) 18 5 d ED.out _ HY.out HO.out).mono ?_
    rintro e u3 ⟨rfl, hn⟩
    replace ka := ka.of hn
    replace kb := kb.of hn
    replace kX := kX.of hn
    replace kY := kY.of hn
    replace kq := kq.of hn
    replace kr := kr.of hn
    replace HX := Lib.hid (HX.out.of hn)
    replace HY := Lib.hid (HY.out.of hn)
    replace hb0 := hb0.trans (hn.mono hb0.size)
    clear hn
    have e0 : eq4 (wd0 0) (wd1 0) (wd2 0) (wd3 0) 0 0 0 0 = true := by kernel_rfl
    have hzh : z = true ∨ h = true := by simpa using hor
    have hzz : z = true ∨ (z = false ∧ h = true) := by cases z <;> simp_all
    clear hor hzh
    have ckq := Var.c kq
    have lkq := kq.lt
    have ckr := Var.c kr
    have lkr := kr.lt
    rcases hzz with rfl | ⟨rfl, rfl⟩
    · go_wp2_with fail
      refine (wawake_any _ (hG.of hb0)).mono ?_
      rintro e wz ⟨rfl, hn⟩
      replace hb0 := hb0.trans (hn.mono hb0.size)
      clear hn
      go_wp2
      go_ret
      exact ⟨by simp, hb0⟩
    · go_wp2_with fail
      refine (wawake_any _ (hG.of hb0)).mono ?_
      rintro e wz ⟨rfl, hn⟩
      replace hb0 := hb0.trans (hn.mono hb0.size)
      clear hn
      go_wp2
      go_ret
      exact ⟨by simp, hb0⟩

set_option maxRecDepth 100000 in
set_option maxHeartbeats 4000000 in
theorem WDiv_ok (x y q r s m : Int) (hs : y.sign = s) (hm : q * y = m) (ht : m + r = x) (hsx : sg x = x) (hsy : sg y = y) (hsq : sg q = q) (hsr : sg r = r)
    (hA : ∀ w, Calls Tryd.prog 17 #[wI x, wI y] w fun e w' => e = .returned (.tuple #[wI q, wI r, .bool true]) ∧ Below w.heap.size w w')
    (hcase : (s = 1 ∧ 0 ≤ r.sign ∧ cmpI r y = -1) ∨ (s = -1 ∧ r.sign ≤ 0 ∧ cmpI r y = 1)) (w : World) (hG : Tab w) :
    Calls Tryd.prog 4 #[wI x, wI y] w fun e w' => e = .returned (.bool true) ∧ Below w.heap.size w w' := by
  obtain ⟨t, hrt⟩ : ∃ t, r.sign = t := ⟨_, rfl⟩
  obtain ⟨c, hrc⟩ : ∃ c, cmpI r y = c := ⟨_, rfl⟩
  rw [hrt, hrc] at hcase
  have ES := Lib.hid hs
  have EM := Lib.hid hm
  have ET := Lib.hid ht
  have SX := Lib.hid hsx
  have SY := Lib.hid hsy
  have SQ := Lib.hid hsq
  have SR := Lib.hid hsr
  have CA := Lib.hid hA
  have ER := Lib.hid hrt
  have EC := Lib.hid hrc
  clear hs hm ht hsx hsy hsq hsr hA hrt hrc
  go_enter Tryd.func4, Tryd.ntmps4
  go_wp2_with fail
  first | refine calls_w ?_ | refine name_world ?_
  intro W hW
  have ka : Var W (w.heap.size) x := by rw [hW]; exact (Blk.new w _ _) |>.alloc _
  have kb : Var W (w.heap.size + 1) y := by rw [hW]; exact (Blk.new1 w _ _ _)
  have hb0 : Below w.heap.size w W := by rw [hW]; exact below_a2 _ _ _
  clear hW
  have cka := Var.c ka
  have lka := ka.lt
  have ckb := Var.c kb
  have lkb := kb.lt
  have Hka := Lib.hid ka
  clear ka
  have Hkb := Lib.hid kb
  clear kb
  refine wp_region_FG2 6 4 5 [(0, 0), (0, 2), (1, 1), (1, 3)] [(3, 6), (3, 7)] (by kernel_rfl) (by kernel_rfl) (fun _ _ d _ _ => by cases d <;> exact Iff.rfl) rfl rfl rfl allocBig rfl rfl rfl allocBig rfl ?_
  have hb : Below W.heap.size W W.drew := (Below.refl _ _).drew
  iterate 2
    refine wpFG_take0 rfl rfl ?_
    go_big_quiet_step (rfl)
    refine wpQuiet_nil ?_
  refine wpFG_do rfl ?_
  intro w1 hg K hK
  replace hb := hb.trans (hg.mono hb.size)
  try replace HX := Lib.hid (HX.out.of hg)
  clear hg
  go_wp2_with ((first | (go_at_call 15; (with_reducible refine (Read_in x SX.out _).mono ?_); rintro e w5 ⟨vm, rfl, hbm, hn⟩; have HX := Lib.hid hbm; have hvm := hbm.shape; clear hbm; obtain ⟨n5, a5, q5, e5, rfl⟩ := hvm) | (go_at_call 15; (with_reducible refine (Read_in y SY.out _).mono ?_); rintro e w6 ⟨vm, rfl, hbm, hn⟩; have HY := Lib.hid hbm; have hvm := hbm.shape; replace HX := Lib.hid (HX.out.of hn); clear hbm; obtain ⟨n6, a6, q6, e6, rfl⟩ := hvm)))
  refine hK.out _ _ hn ?_
  replace hb := hb.trans (hn.mono hb.size)
  clear hK K
  clear hn
  refine wpFG_do rfl ?_
  intro w1 hg K hK
  replace hb := hb.trans (hg.mono hb.size)
  try replace HX := Lib.hid (HX.out.of hg)
  clear hg
  go_wp2_with ((first | (go_at_call 15; (with_reducible refine (Read_in x SX.out _).mono ?_); rintro e w5 ⟨vm, rfl, hbm, hn⟩; have HX := Lib.hid hbm; have hvm := hbm.shape; clear hbm; obtain ⟨n5, a5, q5, e5, rfl⟩ := hvm) | (go_at_call 15; (with_reducible refine (Read_in y SY.out _).mono ?_); rintro e w6 ⟨vm, rfl, hbm, hn⟩; have HY := Lib.hid hbm; have hvm := hbm.shape; replace HX := Lib.hid (HX.out.of hn); clear hbm; obtain ⟨n6, a6, q6, e6, rfl⟩ := hvm)))
  refine hK.out _ _ hn ?_
  replace hb := hb.trans (hn.mono hb.size)
  clear hK K
  clear hn
  refine wpFG_nil ?_
  clear hb
  intro w1 hg hb b1 b2 hne lb1 nb1 lb2 nb2
  replace HX := Lib.hid (HX.out.of hg)
  replace HY := Lib.hid (HY.out.of hg)
  clear hg
  simp only [Act.put, ptrTo, List.setIfInBounds_toArray, List.set_cons_succ, List.set_cons_zero]
  have c1 := BigVar.c (show BigVar w1 b1 false none 0 0 from nb1)
  have f1 := BigVar.f (show BigVar w1 b1 false none 0 0 from nb1)
  have c2 := BigVar.c (show BigVar w1 b2 false none 0 0 from nb2)
  have f2 := BigVar.f (show BigVar w1 b2 false none 0 0 from nb2)
  refine wpG_do3 rfl ?_
  intro K hK
  go_wp2_with (fail)
  refine hK.out _ _ ?_
  clear hK K
  refine wpG_do3 rfl ?_
  intro K hK
  go_wp2_with (fail)
  refine hK.out _ _ ?_
  clear hK K
  refine wpG_nil ?_
  clear cka lka ckb lkb
  refine list_world ?_
  intro V hV
  have g1 : BigVar w1 b1 false none 0 0 := nb1
  have g2 : BigVar w1 b2 false none 0 0 := nb2
  have h1 : b1 ≠ b2 := hne
  have m2 : BigVar ((w1.setCell ⟨b1, 0, none⟩ (.bool n5)).setCell ⟨b1, 1, none⟩ (.slice a5 q5 e5)) b2 false none 0 0 := (g2.set h1.symm _ _ _).set h1.symm _ _ _
  have kX : BigVar V b1 n5 a5 q5 e5 := by rw [hV]; exact (((Blk.put g1 0 _).put 1 _).set h1 _ _ _).set h1 _ _ _
  have kY : BigVar V b2 n6 a6 q6 e6 := by rw [hV]; exact (Blk.put m2 0 _).put 1 _
  replace HX := Lib.hid (show Big V (.agg #[.bool n5, .slice a5 q5 e5]) x 18 by rw [hV]; exact (HX.out.set2 (g1.cell 0) _ _).set2 (m2.cell 0) _ _)
  replace HY := Lib.hid (show Big V (.agg #[.bool n6, .slice a6 q6 e6]) y 18 by rw [hV]; exact (HY.out.set2 (g1.cell 0) _ _).set2 (m2.cell 0) _ _)
  have hbV : Below W.heap.size W V := by rw [hV]; exact set2_below (set2_below hb lb1 _ _) lb2 _ _
  have ka := Hka.out.of hbV
  clear Hka
  have kb := Hkb.out.of hbV
  clear Hkb
  replace hb0 := hb0.trans (hbV.mono hb0.size)
  clear hV g1 g2 m2 h1 hne nb1 nb2 c1 f1 c2 f2 lb1 lb2 hb hbV
  have cka := Var.c ka
  have lka := ka.lt
  have ckb := Var.c kb
  have lkb := kb.lt
  have ckX := BigVar.c kX
  have lkX := kX.lt
  have ckY := BigVar.c kY
  have lkY := kY.lt
  go_wp2_with fail
  clear cka lka ckb lkb ckX lkX ckY lkY
  refine (CA.out _).mono ?_
  rintro e u1 ⟨rfl, hn⟩
  replace ka := ka.of hn
  replace kb := kb.of hn
  replace kX := kX.of hn
  replace kY := kY.of hn
  replace HX := Lib.hid (HX.out.of hn)
  replace HY := Lib.hid (HY.out.of hn)
  replace hb0 := hb0.trans (hn.mono hb0.size)
  clear hn
  have cka := Var.c ka
  have lka := ka.lt
  have ckb := Var.c kb
  have lkb := kb.lt
  have ckX := BigVar.c kX
  have lkX := kX.lt
  have ckY := BigVar.c kY
  have lkY := kY.lt
  go_wp2_with fail
  clear cka lka ckb lkb ckX lkX ckY lkY
  first | refine calls_w ?_ | refine name_world ?_
  intro V1 hV1
  have kq : Var V1 (u1.heap.size) q := by rw [hV1]; exact (Blk.new _ _ _) |>.alloc _
  have kr : Var V1 (u1.heap.size + 1) r := by rw [hV1]; exact (Blk.new1 _ _ _ _)
  have hn : Below u1.heap.size u1 V1 := by rw [hV1]; exact below_a2 _ _ _
  replace ka := ka.of hn
  replace kb := kb.of hn
  replace kX := kX.of hn
  replace kY := kY.of hn
  replace HX := Lib.hid (HX.out.of hn)
  replace HY := Lib.hid (HY.out.of hn)
  replace hb0 := hb0.trans (hn.mono hb0.size)
  clear hn hV1
  have cka := Var.c ka
  have lka := ka.lt
  have ckb := Var.c kb
  have lkb := kb.lt
  have ckX := BigVar.c kX
  have lkX := kX.lt
  have ckY := BigVar.c kY
  have lkY := kY.lt
  have ckq := Var.c kq
  have lkq := kq.lt
  have ckr := Var.c kr
  have lkr := kr.lt
  have Hka := Lib.hid ka
  clear ka
  have Hkb := Lib.hid kb
  clear kb
  have HkX := Lib.hid kX
  clear kX
  have HkY := Lib.hid kY
  clear kY
  have Hkq := Lib.hid kq
  clear kq
  have Hkr := Lib.hid kr
  clear kr
  refine wp_region_FG2 6 4 5 [(0, 0), (0, 2), (1, 1), (1, 3)] [(3, 6), (3, 7)] (by kernel_rfl) (by kernel_rfl) (fun _ _ d _ _ => by cases d <;> exact Iff.rfl) rfl rfl rfl allocBig rfl rfl rfl allocBig rfl ?_
  have hb : Below V1.heap.size V1 V1.drew := (Below.refl _ _).drew
  iterate 2
    refine wpFG_take0 rfl rfl ?_
    go_big_quiet_step (rfl)
    refine wpQuiet_nil ?_
  refine wpFG_do rfl ?_
  intro w1 hg K hK
  replace hb := hb.trans (hg.mono hb.size)
  try replace HM := Lib.hid (HM.out.of hg)
  clear hg
  go_wp2_with ((first | (go_at_call 15; (with_reducible refine (Read_in q SQ.out _).mono ?_); rintro e w5 ⟨vm, rfl, hbm, hn⟩; have HM := Lib.hid hbm; have hvm := hbm.shape; clear hbm; obtain ⟨n7, a7, q7, e7, rfl⟩ := hvm) | (go_at_call 15; (with_reducible refine (Read_in r SR.out _).mono ?_); rintro e w6 ⟨vm, rfl, hbm, hn⟩; have HN := Lib.hid hbm; have hvm := hbm.shape; replace HM := Lib.hid (HM.out.of hn); clear hbm; obtain ⟨n8, a8, q8, e8, rfl⟩ := hvm)))
  refine hK.out _ _ hn ?_
  replace hb := hb.trans (hn.mono hb.size)
  clear hK K
  clear hn
  refine wpFG_do rfl ?_
  intro w1 hg K hK
  replace hb := hb.trans (hg.mono hb.size)
  try replace HM := Lib.hid (HM.out.of hg)
  clear hg
  go_wp2_with ((first | (go_at_call 15; (with_reducible refine (Read_in q SQ.out _).mono ?_); rintro e w5 ⟨vm, rfl, hbm, hn⟩; have HM := Lib.hid hbm; have hvm := hbm.shape; clear hbm; obtain ⟨n7, a7, q7, e7, rfl⟩ := hvm) | (go_at_call 15; (with_reducible refine (Read_in r SR.out _).mono ?_); rintro e w6 ⟨vm, rfl, hbm, hn⟩; have HN := Lib.hid hbm; have hvm := hbm.shape; replace HM := Lib.hid (HM.out.of hn); clear hbm; obtain ⟨n8, a8, q8, e8, rfl⟩ := hvm)))
  refine hK.out _ _ hn ?_
  replace hb := hb.trans (hn.mono hb.size)
  clear hK K
  clear hn
  refine wpFG_nil ?_
  clear hb
  intro w1 hg hb b1 b2 hne lb1 nb1 lb2 nb2
  replace HM := Lib.hid (HM.out.of hg)
  replace HN := Lib.hid (HN.out.of hg)
  clear hg
  simp only [Act.put, ptrTo, List.setIfInBounds_toArray, List.set_cons_succ, List.set_cons_zero]
  have c1 := BigVar.c (show BigVar w1 b1 false none 0 0 from nb1)
  have f1 := BigVar.f (show BigVar w1 b1 false none 0 0 from nb1)
  have c2 := BigVar.c (show BigVar w1 b2 false none 0 0 from nb2)
  have f2 := BigVar.f (show BigVar w1 b2 false none 0 0 from nb2)
  refine wpG_do3 rfl ?_
  intro K hK
  go_wp2_with (fail)
  refine hK.out _ _ ?_
  clear hK K
  refine wpG_do3 rfl ?_
  intro K hK
  go_wp2_with (fail)
  refine hK.out _ _ ?_
  clear hK K
  refine wpG_nil ?_
  clear cka lka ckb lkb ckX lkX ckY lkY ckq lkq ckr lkr
  refine list_world ?_
  intro V2 hV2
  have g1 : BigVar w1 b1 false none 0 0 := nb1
  have g2 : BigVar w1 b2 false none 0 0 := nb2
  have h1 : b1 ≠ b2 := hne
  have m2 : BigVar ((w1.setCell ⟨b1, 0, none⟩ (.bool n7)).setCell ⟨b1, 1, none⟩ (.slice a7 q7 e7)) b2 false none 0 0 := (g2.set h1.symm _ _ _).set h1.symm _ _ _
  have kM : BigVar V2 b1 n7 a7 q7 e7 := by rw [hV2]; exact (((Blk.put g1 0 _).put 1 _).set h1 _ _ _).set h1 _ _ _
  have kN : BigVar V2 b2 n8 a8 q8 e8 := by rw [hV2]; exact (Blk.put m2 0 _).put 1 _
  replace HM := Lib.hid (show Big V2 (.agg #[.bool n7, .slice a7 q7 e7]) q 18 by rw [hV2]; exact (HM.out.set2 (g1.cell 0) _ _).set2 (m2.cell 0) _ _)
  replace HN := Lib.hid (show Big V2 (.agg #[.bool n8, .slice a8 q8 e8]) r 18 by rw [hV2]; exact (HN.out.set2 (g1.cell 0) _ _).set2 (m2.cell 0) _ _)
  have hbV2 : Below V1.heap.size V1 V2 := by rw [hV2]; exact set2_below (set2_below hb lb1 _ _) lb2 _ _
  replace HX := Lib.hid (HX.out.of hbV2)
  replace HY := Lib.hid (HY.out.of hbV2)
  have ka := Hka.out.of hbV2
  clear Hka
  have kb := Hkb.out.of hbV2
  clear Hkb
  have kX := HkX.out.of hbV2
  clear HkX
  have kY := HkY.out.of hbV2
  clear HkY
  have kq := Hkq.out.of hbV2
  clear Hkq
  have kr := Hkr.out.of hbV2
  clear Hkr
  replace hb0 := hb0.trans (hbV2.mono hb0.size)
  clear hV2 g1 g2 m2 h1 hne nb1 nb2 c1 f1 c2 f2 lb1 lb2 hb hbV2
  have cka := Var.c ka
  have lka := ka.lt
  have ckb := Var.c kb
  have lkb := kb.lt
  have ckX := BigVar.c kX
  have lkX := kX.lt
  have ckY := BigVar.c kY
  have lkY := kY.lt
  have ckq := Var.c kq
  have lkq := kq.lt
  have ckr := Var.c kr
  have lkr := kr.lt
  have ckM := BigVar.c kM
  have lkM := kM.lt
  have ckN := BigVar.c kN
  have lkN := kN.lt
  go_wp2_with fail
  clear cka lka ckb lkb ckX lkX ckY lkY ckq lkq ckr lkr ckM lkM ckN lkN
  have cka := Var.c ka
  have lka := ka.lt
  have ckb := Var.c kb
  have lkb := kb.lt
  have ckX := BigVar.c kX
  have lkX := kX.lt
  have ckY := BigVar.c kY
  have lkY := kY.lt
  have ckq := Var.c kq
  have lkq := kq.lt
  have ckr := Var.c kr
  have lkr := kr.lt
  have ckM := BigVar.c kM
  have lkM := kM.lt
  have ckN := BigVar.c kN
  have lkN := kN.lt
  have Hka := Lib.hid ka
  clear ka
  have Hkb := Lib.hid kb
  clear kb
  have HkX := Lib.hid kX
  clear kX
  have HkY := Lib.hid kY
  clear kY
  have Hkq := Lib.hid kq
  clear kq
  have Hkr := Lib.hid kr
  clear kr
  have HkM := Lib.hid kM
  clear kM
  have HkN := Lib.hid kN
  clear kN
  refine wp_region_up V2.heap.size 6 [(true, 0), (true, 1), (true, 3), (true, 5), (false, 2), (false, 4)] (by kernel_rfl) (by kernel_rfl) (fun _ _ d _ _ h => by cases d <;> exact h) ?_
  have hb : Below V2.heap.size V2 V2.drew := (Below.refl _ _).drew
  iterate 4
    refine wpS_takeL rfl rfl ?_
    go_big_quiet_step (rfl)
    refine wpQuiet_nil ?_
  refine wpS_doL rfl ?_
  intro K hK
  go_wp2_with ((first | (go_at_call 14; (with_reducible refine (bigMul_any (.agg #[.bool n7, .slice a7 q7 e7]) (.agg #[.bool n6, .slice a6 q6 e6]) q y 18 18 _ (HM.out.of hb) (HY.out.of hb) (by decide)).mono ?_); rintro e w8 ⟨vmHP, rfl, hbm, hn⟩; rw [EM.out] at hbm; have HP := Lib.hid hbm; clear hbm) | (go_at_call 23; (with_reducible refine (bigAdd_any _ (.agg #[.bool n8, .slice a8 q8 e8]) m r 36 _ HP.out ((HN.out.of hb).mono (by decide)) (by decide)).mono ?_); rintro e w8 ⟨vmHT, rfl, hbm, hn⟩; rw [ET.out] at hbm; have HT := Lib.hid hbm; clear hbm)))
  replace hb := hb.trans (hn.mono hb.size)
  refine hK.out _ _ (up_iff.2 hb) ?_
  clear hK K
  clear hn
  refine wpS_doL rfl ?_
  intro K hK
  go_wp2_with ((first | (go_at_call 14; (with_reducible refine (bigMul_any (.agg #[.bool n7, .slice a7 q7 e7]) (.agg #[.bool n6, .slice a6 q6 e6]) q y 18 18 _ (HM.out.of hb) (HY.out.of hb) (by decide)).mono ?_); rintro e w8 ⟨vmHP, rfl, hbm, hn⟩; rw [EM.out] at hbm; have HP := Lib.hid hbm; clear hbm) | (go_at_call 23; (with_reducible refine (bigAdd_any _ (.agg #[.bool n8, .slice a8 q8 e8]) m r 36 _ HP.out ((HN.out.of hb).mono (by decide)) (by decide)).mono ?_); rintro e w8 ⟨vmHT, rfl, hbm, hn⟩; rw [ET.out] at hbm; have HT := Lib.hid hbm; clear hbm)))
  replace hb := hb.trans (hn.mono hb.size)
  refine hK.out _ _ (up_iff.2 hb) ?_
  clear hK K
  clear hn
  refine wpS_nil ?_
  simp only [List.drop_succ_cons, List.drop_zero]
  replace HX := Lib.hid (HX.out.of hb)
  replace HY := Lib.hid (HY.out.of hb)
  replace HM := Lib.hid (HM.out.of hb)
  replace HN := Lib.hid (HN.out.of hb)
  have ka := Hka.out.of hb
  clear Hka
  have kb := Hkb.out.of hb
  clear Hkb
  have kX := HkX.out.of hb
  clear HkX
  have kY := HkY.out.of hb
  clear HkY
  have kq := Hkq.out.of hb
  clear Hkq
  have kr := Hkr.out.of hb
  clear Hkr
  have kM := HkM.out.of hb
  clear HkM
  have kN := HkN.out.of hb
  clear HkN
  replace hb0 := hb0.trans (hb.mono hb0.size)
  clear hb
  clear cka lka ckb lkb ckX lkX ckY lkY ckq lkq ckr lkr ckM lkM ckN lkN
  have cka := Var.c ka
  have lka := ka.lt
  have ckb := Var.c kb
  have lkb := kb.lt
  have ckX := BigVar.c kX
  have lkX := kX.lt
  have ckY := BigVar.c kY
  have lkY := kY.lt
  have ckq := Var.c kq
  have lkq := kq.lt
  have ckr := Var.c kr
  have lkr := kr.lt
  have ckM := BigVar.c kM
  have lkM := kM.lt
  have ckN := BigVar.c kN
  have lkN := kN.lt
  go_wp2_with fail
  clear cka lka ckb lkb ckX lkX ckY lkY ckq lkq ckr lkr ckM lkM ckN lkN
  refine (bigCmp_is _ (.agg #[.bool n5, .slice a5 q5 e5]) x x 37 18 0 (cmpI_eq _) _ HT.out HX.out).mono ?_
  rintro e u3 ⟨rfl, hn⟩
  replace ka := ka.of hn
  replace kb := kb.of hn
  replace kX := kX.of hn
  replace kY := kY.of hn
  replace kq := kq.of hn
  replace kr := kr.of hn
  replace kM := kM.of hn
  replace kN := kN.of hn
  replace HX := Lib.hid (HX.out.of hn)
  replace HY := Lib.hid (HY.out.of hn)
  replace HM := Lib.hid (HM.out.of hn)
  replace HN := Lib.hid (HN.out.of hn)
  replace hb0 := hb0.trans (hn.mono hb0.size)
  clear hn
  have cka := Var.c ka
  have lka := ka.lt
  have ckb := Var.c kb
  have lkb := kb.lt
  have ckX := BigVar.c kX
  have lkX := kX.lt
  have ckY := BigVar.c kY
  have lkY := kY.lt
  have ckq := Var.c kq
  have lkq := kq.lt
  have ckr := Var.c kr
  have lkr := kr.lt
  have ckM := BigVar.c kM
  have lkM := kM.lt
  have ckN := BigVar.c kN
  have lkN := kN.lt
  go_wp2_with fail
  clear cka lka ckb lkb ckX lkX ckY lkY ckq lkq ckr lkr ckM lkM ckN lkN
  refine (bigSign_is (.agg #[.bool n6, .slice a6 q6 e6]) y 18 s ES.out _ HY.out).mono ?_
  rintro e u4 ⟨rfl, hn⟩
  replace ka := ka.of hn
  replace kb := kb.of hn
  replace kX := kX.of hn
  replace kY := kY.of hn
  replace kq := kq.of hn
  replace kr := kr.of hn
  replace kM := kM.of hn
  replace kN := kN.of hn
  replace HX := Lib.hid (HX.out.of hn)
  replace HY := Lib.hid (HY.out.of hn)
  replace HM := Lib.hid (HM.out.of hn)
  replace HN := Lib.hid (HN.out.of hn)
  replace hb0 := hb0.trans (hn.mono hb0.size)
  clear hn
  rcases hcase with ⟨rfl, h1, rfl⟩ | ⟨rfl, h1, rfl⟩
  · have cka := Var.c ka
    have lka := ka.lt
    have ckb := Var.c kb
    have lkb := kb.lt
    have ckX := BigVar.c kX
    have lkX := kX.lt
    have ckY := BigVar.c kY
    have lkY := kY.lt
    have ckq := Var.c kq
    have lkq := kq.lt
    have ckr := Var.c kr
    have lkr := kr.lt
    have ckM := BigVar.c kM
    have lkM := kM.lt
    have ckN := BigVar.c kN
    have lkN := kN.lt
    go_wp2_with fail
    clear cka lka ckb lkb ckX lkX ckY lkY ckq lkq ckr lkr ckM lkM ckN lkN
    refine (bigSign_is (.agg #[.bool n8, .slice a8 q8 e8]) r 18 t ER.out _ HN.out).mono ?_
    rintro e u5 ⟨rfl, hn⟩
    replace ka := ka.of hn
    replace kb := kb.of hn
    replace kX := kX.of hn
    replace kY := kY.of hn
    replace kq := kq.of hn
    replace kr := kr.of hn
    replace kM := kM.of hn
    replace kN := kN.of hn
    replace HX := Lib.hid (HX.out.of hn)
    replace HY := Lib.hid (HY.out.of hn)
    replace HM := Lib.hid (HM.out.of hn)
    replace HN := Lib.hid (HN.out.of hn)
    replace hb0 := hb0.trans (hn.mono hb0.size)
    clear hn
    have cka := Var.c ka
    have lka := ka.lt
    have ckb := Var.c kb
    have lkb := kb.lt
    have ckX := BigVar.c kX
    have lkX := kX.lt
    have ckY := BigVar.c kY
    have lkY := kY.lt
    have ckq := Var.c kq
    have lkq := kq.lt
    have ckr := Var.c kr
    have lkr := kr.lt
    have ckM := BigVar.c kM
    have lkM := kM.lt
    have ckN := BigVar.c kN
    have lkN := kN.lt
    go_wp2_with fail
    clear cka lka ckb lkb ckX lkX ckY lkY ckq lkq ckr lkr ckM lkM ckN lkN
    refine (bigCmp_is (.agg #[.bool n8, .slice a8 q8 e8]) (.agg #[.bool n6, .slice a6 q6 e6]) r y 18 18 (-1) EC.out _ HN.out HY.out).mono ?_
    rintro e u6 ⟨rfl, hn⟩
    replace ka := ka.of hn
    replace kb := kb.of hn
    replace kX := kX.of hn
    replace kY := kY.of hn
    replace kq := kq.of hn
    replace kr := kr.of hn
    replace kM := kM.of hn
    replace kN := kN.of hn
    replace HX := Lib.hid (HX.out.of hn)
    replace HY := Lib.hid (HY.out.of hn)
    replace HM := Lib.hid (HM.out.of hn)
    replace HN := Lib.hid (HN.out.of hn)
    replace hb0 := hb0.trans (hn.mono hb0.size)
    clear hn
    have cka := Var.c ka
    have lka := ka.lt
    have ckb := Var.c kb
    have lkb := kb.lt
    have ckX := BigVar.c kX
    have lkX := kX.lt
    have ckY := BigVar.c kY
    have lkY := kY.lt
    have ckq := Var.c kq
    have lkq := kq.lt
    have ckr := Var.c kr
    have lkr := kr.lt
    have ckM := BigVar.c kM
    have lkM := kM.lt
    have ckN := BigVar.c kN
    have lkN := kN.lt
    go_wp2_with fail
    clear cka lka ckb lkb ckX lkX ckY lkY ckq lkq ckr lkr ckM lkM ckN lkN
    refine (wawake_any _ (hG.of hb0)).mono ?_
    rintro e wz ⟨rfl, hn⟩
    replace hb0 := hb0.trans (hn.mono hb0.size)
    clear hn
    go_wp2
    go_ret
    exact ⟨by simp, hb0⟩
  · have cka := Var.c ka
    have lka := ka.lt
    have ckb := Var.c kb
    have lkb := kb.lt
    have ckX := BigVar.c kX
    have lkX := kX.lt
    have ckY := BigVar.c kY
    have lkY := kY.lt
    have ckq := Var.c kq
    have lkq := kq.lt
    have ckr := Var.c kr
    have lkr := kr.lt
    have ckM := BigVar.c kM
    have lkM := kM.lt
    have ckN := BigVar.c kN
    have lkN := kN.lt
    go_wp2_with fail
    clear cka lka ckb lkb ckX lkX ckY lkY ckq lkq ckr lkr ckM lkM ckN lkN
    refine (bigSign_is (.agg #[.bool n6, .slice a6 q6 e6]) y 18 (-1) ES.out _ HY.out).mono ?_
    rintro e u5 ⟨rfl, hn⟩
    replace ka := ka.of hn
    replace kb := kb.of hn
    replace kX := kX.of hn
    replace kY := kY.of hn
    replace kq := kq.of hn
    replace kr := kr.of hn
    replace kM := kM.of hn
    replace kN := kN.of hn
    replace HX := Lib.hid (HX.out.of hn)
    replace HY := Lib.hid (HY.out.of hn)
    replace HM := Lib.hid (HM.out.of hn)
    replace HN := Lib.hid (HN.out.of hn)
    replace hb0 := hb0.trans (hn.mono hb0.size)
    clear hn
    have cka := Var.c ka
    have lka := ka.lt
    have ckb := Var.c kb
    have lkb := kb.lt
    have ckX := BigVar.c kX
    have lkX := kX.lt
    have ckY := BigVar.c kY
    have lkY := kY.lt
    have ckq := Var.c kq
    have lkq := kq.lt
    have ckr := Var.c kr
    have lkr := kr.lt
    have ckM := BigVar.c kM
    have lkM := kM.lt
    have ckN := BigVar.c kN
    have lkN := kN.lt
    go_wp2_with fail
    clear cka lka ckb lkb ckX lkX ckY lkY ckq lkq ckr lkr ckM lkM ckN lkN
    refine (bigSign_is (.agg #[.bool n8, .slice a8 q8 e8]) r 18 t ER.out _ HN.out).mono ?_
    rintro e u6 ⟨rfl, hn⟩
    replace ka := ka.of hn
    replace kb := kb.of hn
    replace kX := kX.of hn
    replace kY := kY.of hn
    replace kq := kq.of hn
    replace kr := kr.of hn
    replace kM := kM.of hn
    replace kN := kN.of hn
    replace HX := Lib.hid (HX.out.of hn)
    replace HY := Lib.hid (HY.out.of hn)
    replace HM := Lib.hid (HM.out.of hn)
    replace HN := Lib.hid (HN.out.of hn)
    replace hb0 := hb0.trans (hn.mono hb0.size)
    clear hn
    have cka := Var.c ka
    have lka := ka.lt
    have ckb := Var.c kb
    have lkb := kb.lt
    have ckX := BigVar.c kX
    have lkX := kX.lt
    have ckY := BigVar.c kY
    have lkY := kY.lt
    have ckq := Var.c kq
    have lkq := kq.lt
    have ckr := Var.c kr
    have lkr := kr.lt
    have ckM := BigVar.c kM
    have lkM := kM.lt
    have ckN := BigVar.c kN
    have lkN := kN.lt
    go_wp2_with fail
    clear cka lka ckb lkb ckX lkX ckY lkY ckq lkq ckr lkr ckM lkM ckN lkN
    refine (bigCmp_is (.agg #[.bool n8, .slice a8 q8 e8]) (.agg #[.bool n6, .slice a6 q6 e6]) r y 18 18 1 EC.out _ HN.out HY.out).mono ?_
    rintro e u7 ⟨rfl, hn⟩
    replace ka := ka.of hn
    replace kb := kb.of hn
    replace kX := kX.of hn
    replace kY := kY.of hn
    replace kq := kq.of hn
    replace kr := kr.of hn
    replace kM := kM.of hn
    replace kN := kN.of hn
    replace HX := Lib.hid (HX.out.of hn)
    replace HY := Lib.hid (HY.out.of hn)
    replace HM := Lib.hid (HM.out.of hn)
    replace HN := Lib.hid (HN.out.of hn)
    replace hb0 := hb0.trans (hn.mono hb0.size)
    clear hn
    have cka := Var.c ka
    have lka := ka.lt
    have ckb := Var.c kb
    have lkb := kb.lt
    have ckX := BigVar.c kX
    have lkX := kX.lt
    have ckY := BigVar.c kY
    have lkY := kY.lt
    have ckq := Var.c kq
    have lkq := kq.lt
    have ckr := Var.c kr
    have lkr := kr.lt
    have ckM := BigVar.c kM
    have lkM := kM.lt
    have ckN := BigVar.c kN
    have lkN := kN.lt
    go_wp2_with fail
    clear cka lka ckb lkb ckX lkX ckY lkY ckq lkq ckr lkr ckM lkM ckN lkN
    refine (wawake_any _ (hG.of hb0)).mono ?_
    rintro e wz ⟨rfl, hn⟩
    replace hb0 := hb0.trans (hn.mono hb0.size)
    clear hn
    go_wp2
    go_ret
    exact ⟨by simp, hb0⟩

theorem WDiv_any (x y : Int) (w : World) (hG : Tab w) (ix : InI x) (iy : InI y) :
    Calls Tryd.prog 4 #[wI x, wI y] w fun e w' => e = .returned (.bool true) ∧ Below w.heap.size w w' := by
  have T := fun w => Div_any x y w ix iy
  cases ho : dvOk x y
  · rw [ho] at T
    refine WDiv_bad x y _ _ _ _ _ _ rfl rfl rfl rfl rfl rfl ?_ (sg_id ix) (sg_id iy) T w hG
    rcases dv_no ix ho with rfl | ⟨rfl, rfl⟩
    · rfl
    · rw [cmpI_eq, cmpI_eq]; rfl
  · rw [ho] at T
    obtain ⟨iq, ir⟩ := fq_in ix iy ho
    refine WDiv_ok x y _ _ _ _ rfl rfl (fq_fr x y) (sg_id ix) (sg_id iy) (sg_id iq) (sg_id ir) T ?_ w hG
    have hy : y ≠ 0 := by
      unfold dvOk at ho
      simp only [Bool.and_eq_true, decide_eq_true_eq] at ho
      exact ho.1
    rcases Int.lt_or_gt_of_ne hy with hn | hp
    · have := fr_neg (x := x) hn
      exact .inr ⟨Int.sign_eq_neg_one_of_neg hn, by have := Int.sign_nonpos_iff.2 this.1; exact this, cmpI_gt this.2⟩
    · have := fr_pos (x := x) hp
      exact .inl ⟨Int.sign_eq_one_of_pos hp, Int.sign_nonneg_iff.2 this.1, cmpI_lt this.2⟩
end Go.Proofs.YtgddpkopbiendaaDoor
