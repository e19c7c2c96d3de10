/- The walk of gromaref03's Turn. Conditions: the coordinates are right. -/
import Derived.Test.YtgddpkopbiendaaPntB
import Derived.Test.YtgddpkopbiendaaPnt2
namespace Go.Proofs.Ytgddpkopbiendaa
open Go.RowKit

theorem allocBg : AllocRuns Try.prog 33 #[.bool false, .slice none 0 0] := fun w => by kernel_rfl
theorem bigOfD_any (a b d : Int) (h : a - b = d) (g : In64 d) (w : World) : Calls Try.prog 88 #[.int .i64 (wrap64 (a - b))] w (GivesBig w d 5) := by
  subst h
  rw [show wrap64 (a - b) = a - b by unfold wrap64; unfold In64 at g; omega]
  exact bigOf_any _ w g

set_option maxRecDepth 100000 in
set_option maxHeartbeats 2000000 in
theorem rTurn_go (ax ay bx b_y cx cy d1 d2 d3 d4 p q r : Int) (h1 : bx - ax = d1) (h2 : cy - ay = d2) (h3 : b_y - ay = d3) (h4 : cx - ax = d4) (g1 : In64 d1) (g2 : In64 d2) (g3 : In64 d3) (g4 : In64 d4) (hp : d1 * d2 = p) (hq : d3 * d4 = q) (hr : p - q = r) (w : World) :
    Calls Try.prog 49 #[pI ax ay, pI bx b_y, pI cx cy] w (GivesBig w r 11) := by
  have H1 := Lib.hid h1
  have H2 := Lib.hid h2
  have H3 := Lib.hid h3
  have H4 := Lib.hid h4
  have H5 := Lib.hid hp
  have H6 := Lib.hid hq
  have H7 := Lib.hid hr
  clear h1 h2 h3 h4 hp hq hr
  go_enter Try.func49, Try.ntmps49
  go_wp2_with fail
  refine name_world ?_
  intro W hW
  have ka : Blk W w.heap.size (pC ax ay) 60 := by rw [hW]; exact (Blk.new w _ _).alloc _ |>.alloc _ |>.alloc _
  have kb : Blk W (w.heap.size + 1) (pC bx b_y) 60 := by rw [hW]; exact (Blk.new1 w _ _ _).alloc _ |>.alloc _
  have kc : Blk W (w.heap.size + 1 + 1) (pC cx cy) 60 := by rw [hW]; exact (Blk.new2 w _ _ _ _).alloc _
  have kz : Blk W (w.heap.size + 1 + 1 + 1) #[.bool false, .slice none 0 0] 33 := by rw [hW]; exact Blk.new3 w _ _ _ _ _
  have hb0 : Below w.heap.size w W := by rw [hW]; exact (below_a3 _ _ _ _).alloc (by simp; omega) _
  clear hW
  have ca0 := ka.cell 0
  have ca1 := ka.cell 1
  have cb0 := kb.cell 0
  have cb1 := kb.cell 1
  have cc0 := kc.cell 0
  have cc1 := kc.cell 1
  simp only [List.getElem?_toArray, List.getElem?_cons_zero, List.getElem?_cons_succ] at ca0 ca1 cb0 cb1 cc0 cc1
  have la := ka.lt
  have lb := kb.lt
  have lc := kc.lt
  have KA := Lib.hid ka
  have KB := Lib.hid kb
  have KC := Lib.hid kc
  have KZ := Lib.hid kz
  clear ka kb kc kz
  refine wp_region_float1 14 13 [(true, 0), (true, 1), (true, 2), (true, 3), (true, 4), (true, 6), (true, 7), (true, 8), (true, 9), (true, 10), (false, 5), (false, 11), (false, 12)] (by kernel_rfl) (by kernel_rfl) (fun _ _ d _ _ => by cases d <;> exact Iff.rfl) rfl rfl rfl allocBg ?_
  have hb : Below W.heap.size W W.drew := (Below.refl _ _).drew
  iterate 10
    refine wpF_take rfl rfl ?_
    go_big_quiet_step (rfl)
    refine wpQuiet_nil ?_
  refine wpF_do rfl ?_
  intro w1 hg K hK
  replace hb := hb.trans (hg.mono hb.size)
  try replace HM := Lib.hid (HM.out.of hg) ;; try replace HN := Lib.hid (HN.out.of hg)
  clear hg
  go_wp2_with ((first | (go_at_call 88; (with_reducible refine (bigOfD_any bx ax d1 H1.out g1 _).mono ?_); rintro e w4 ⟨vm, rfl, hbm, hn⟩; have HM := Lib.hid hbm; have hvm := hbm.shape; clear hbm; obtain ⟨n4, a4, q4, e4, rfl⟩ := hvm) | (go_at_call 88; (with_reducible refine (bigOfD_any cy ay d2 H2.out g2 _).mono ?_); rintro e w5 ⟨vm, rfl, hbm, hn⟩; have HN := Lib.hid hbm; have hvm := hbm.shape; replace HM := Lib.hid (HM.out.of hn); clear hbm; obtain ⟨n5, a5, q5, e5, rfl⟩ := hvm) | (go_at_call 21; refine (bigMul_any _ _ d1 d2 5 5 _ HM.out HN.out (by decide)).mono ?_; rintro e w6 ⟨vm, rfl, hbm, hn⟩; rw [H5.out] at hbm; have HP := Lib.hid hbm; have hvm := hbm.shape; clear hbm HM HN; obtain ⟨n6, a6, q6, e6, rfl⟩ := hvm)))
  refine hK.out _ _ hn ?_
  replace hb := hb.trans (hn.mono hb.size)
  clear hK K
  clear hn
  refine wpF_do rfl ?_
  intro w1 hg K hK
  replace hb := hb.trans (hg.mono hb.size)
  try replace HM := Lib.hid (HM.out.of hg) ;; try replace HN := Lib.hid (HN.out.of hg)
  clear hg
  go_wp2_with ((first | (go_at_call 88; (with_reducible refine (bigOfD_any bx ax d1 H1.out g1 _).mono ?_); rintro e w4 ⟨vm, rfl, hbm, hn⟩; have HM := Lib.hid hbm; have hvm := hbm.shape; clear hbm; obtain ⟨n4, a4, q4, e4, rfl⟩ := hvm) | (go_at_call 88; (with_reducible refine (bigOfD_any cy ay d2 H2.out g2 _).mono ?_); rintro e w5 ⟨vm, rfl, hbm, hn⟩; have HN := Lib.hid hbm; have hvm := hbm.shape; replace HM := Lib.hid (HM.out.of hn); clear hbm; obtain ⟨n5, a5, q5, e5, rfl⟩ := hvm) | (go_at_call 21; refine (bigMul_any _ _ d1 d2 5 5 _ HM.out HN.out (by decide)).mono ?_; rintro e w6 ⟨vm, rfl, hbm, hn⟩; rw [H5.out] at hbm; have HP := Lib.hid hbm; have hvm := hbm.shape; clear hbm HM HN; obtain ⟨n6, a6, q6, e6, rfl⟩ := hvm)))
  refine hK.out _ _ hn ?_
  replace hb := hb.trans (hn.mono hb.size)
  clear hK K
  clear hn
  refine wpF_do rfl ?_
  intro w1 hg K hK
  replace hb := hb.trans (hg.mono hb.size)
  try replace HM := Lib.hid (HM.out.of hg) ;; try replace HN := Lib.hid (HN.out.of hg)
  clear hg
  go_wp2_with ((first | (go_at_call 88; (with_reducible refine (bigOfD_any bx ax d1 H1.out g1 _).mono ?_); rintro e w4 ⟨vm, rfl, hbm, hn⟩; have HM := Lib.hid hbm; have hvm := hbm.shape; clear hbm; obtain ⟨n4, a4, q4, e4, rfl⟩ := hvm) | (go_at_call 88; (with_reducible refine (bigOfD_any cy ay d2 H2.out g2 _).mono ?_); rintro e w5 ⟨vm, rfl, hbm, hn⟩; have HN := Lib.hid hbm; have hvm := hbm.shape; replace HM := Lib.hid (HM.out.of hn); clear hbm; obtain ⟨n5, a5, q5, e5, rfl⟩ := hvm) | (go_at_call 21; refine (bigMul_any _ _ d1 d2 5 5 _ HM.out HN.out (by decide)).mono ?_; rintro e w6 ⟨vm, rfl, hbm, hn⟩; rw [H5.out] at hbm; have HP := Lib.hid hbm; have hvm := hbm.shape; clear hbm HM HN; obtain ⟨n6, a6, q6, e6, rfl⟩ := hvm)))
  refine hK.out _ _ hn ?_
  replace hb := hb.trans (hn.mono hb.size)
  clear hK K
  clear hn
  refine wpF_nil ?_
  clear hb
  intro w1 hg hb b1 lb1 nb1
  replace HP := Lib.hid (HP.out.of hg)
  clear hg
  simp only [Act.put, ptrTo, List.setIfInBounds_toArray, List.set_cons_succ, List.set_cons_zero]
  simp only [List.drop_succ_cons, List.drop_zero]
  have kx : Blk w1 b1 #[.bool false, .slice none 0 0] 33 := nb1
  have v0 := kx.cell 0
  have v1 := kx.cell 1
  have f0 := kx.free 0
  have f1 := kx.free 1
  simp only [List.getElem?_toArray, List.getElem?_cons_zero, List.getElem?_cons_succ] at v0 v1
  have na : w.heap.size ≠ b1 := by omega
  have nb : w.heap.size + 1 ≠ b1 := by omega
  have nc : w.heap.size + 1 + 1 ≠ b1 := by omega
  have nz : w.heap.size + 1 + 1 + 1 ≠ b1 := by have := KZ.out.lt; omega
  have hge : w.heap.size ≤ b1 := Nat.le_trans hb0.size lb1
  have NN := Lib.hid (And.intro na (And.intro nb (And.intro nc nz)))
  have KX := Lib.hid kx
  have V0 := Lib.hid v0
  clear ca0 ca1 cb0 cb1 cc0 cc1 la lb lc nb1 kx na nb nc nz
  go_wp2_with fail
  refine name_world ?_
  intro V hV
  have kx : Blk V b1 #[.bool n6, .slice a6 q6 e6] 33 := by rw [hV]; exact (Blk.put KX.out 0 _).put 1 _
  have ka : Blk V w.heap.size (pC ax ay) 60 := by rw [hV]; exact ((KA.out.of hb).set NN.out.1 _ _ _).set NN.out.1 _ _ _
  have kb : Blk V (w.heap.size + 1) (pC bx b_y) 60 := by rw [hV]; exact ((KB.out.of hb).set NN.out.2.1 _ _ _).set NN.out.2.1 _ _ _
  have kc : Blk V (w.heap.size + 1 + 1) (pC cx cy) 60 := by rw [hV]; exact ((KC.out.of hb).set NN.out.2.2.1 _ _ _).set NN.out.2.2.1 _ _ _
  have kz : Blk V (w.heap.size + 1 + 1 + 1) #[.bool false, .slice none 0 0] 33 := by rw [hV]; exact ((KZ.out.of hb).set NN.out.2.2.2 _ _ _).set NN.out.2.2.2 _ _ _
  have hbV : Below w.heap.size w V := by rw [hV]; exact set2_below (hb0.trans (hb.mono hb0.size)) hge _ _
  replace HP := Lib.hid (show Big V (.agg #[.bool n6, .slice a6 q6 e6]) p 10 by rw [hV]; exact HP.out.set2 V0.out (.bool n6) (.slice a6 q6 e6))
  clear hV hb hb0 KA KB KC KZ KX NN V0 v0 v1 f0 f1 hge lb1
  have ca0 := ka.cell 0
  have ca1 := ka.cell 1
  have cb0 := kb.cell 0
  have cb1 := kb.cell 1
  have cc0 := kc.cell 0
  have cc1 := kc.cell 1
  have cx0 := kx.cell 0
  have cx1 := kx.cell 1
  simp only [List.getElem?_toArray, List.getElem?_cons_zero, List.getElem?_cons_succ] at ca0 ca1 cb0 cb1 cc0 cc1 cx0 cx1
  have la := ka.lt
  have lb := kb.lt
  have lc := kc.lt
  have lx := kx.lt
  have KZ := Lib.hid kz
  clear ka kb kc kz kx
  refine wp_region_up V.heap.size 14 [(true, 0), (true, 1), (true, 2), (true, 3), (true, 4), (true, 5), (true, 7), (true, 8), (true, 9), (true, 10), (true, 11), (false, 6), (false, 12), (false, 13)] (by kernel_rfl) (by kernel_rfl) (fun _ _ d _ _ h => by cases d <;> exact h) ?_
  have hb : Below V.heap.size V V.drew := (Below.refl _ _).drew
  iterate 11
    refine wpS_takeL rfl rfl ?_
    go_big_quiet_step (rfl)
    refine wpQuiet_nil ?_
  refine wpS_doL rfl ?_
  intro K hK
  try replace HM := Lib.hid (HM.out.of hg) ;; try replace HN := Lib.hid (HN.out.of hg)
  go_wp2_with ((first | (go_at_call 88; (with_reducible refine (bigOfD_any b_y ay d3 H3.out g3 _).mono ?_); rintro e w4 ⟨vm, rfl, hbm, hn⟩; have HM := Lib.hid hbm; have hvm := hbm.shape; clear hbm; obtain ⟨n7, a7, q7, e7, rfl⟩ := hvm) | (go_at_call 88; (with_reducible refine (bigOfD_any cx ax d4 H4.out g4 _).mono ?_); rintro e w5 ⟨vm, rfl, hbm, hn⟩; have HN := Lib.hid hbm; have hvm := hbm.shape; replace HM := Lib.hid (HM.out.of hn); clear hbm; obtain ⟨n8, a8, q8, e8, rfl⟩ := hvm) | (go_at_call 21; refine (bigMul_any _ _ d3 d4 5 5 _ HM.out HN.out (by decide)).mono ?_; rintro e w6 ⟨vm, rfl, hbm, hn⟩; rw [H6.out] at hbm; have HQ := Lib.hid hbm; have hvm := hbm.shape; clear hbm HM HN; obtain ⟨n9, a9, q9, e9, rfl⟩ := hvm)))
  replace hb := hb.trans (hn.mono hb.size)
  refine hK.out _ _ (up_iff.2 hb) ?_
  clear hK K
  clear hn
  refine wpS_doL rfl ?_
  intro K hK
  try replace HM := Lib.hid (HM.out.of hg) ;; try replace HN := Lib.hid (HN.out.of hg)
  go_wp2_with ((first | (go_at_call 88; (with_reducible refine (bigOfD_any b_y ay d3 H3.out g3 _).mono ?_); rintro e w4 ⟨vm, rfl, hbm, hn⟩; have HM := Lib.hid hbm; have hvm := hbm.shape; clear hbm; obtain ⟨n7, a7, q7, e7, rfl⟩ := hvm) | (go_at_call 88; (with_reducible refine (bigOfD_any cx ax d4 H4.out g4 _).mono ?_); rintro e w5 ⟨vm, rfl, hbm, hn⟩; have HN := Lib.hid hbm; have hvm := hbm.shape; replace HM := Lib.hid (HM.out.of hn); clear hbm; obtain ⟨n8, a8, q8, e8, rfl⟩ := hvm) | (go_at_call 21; refine (bigMul_any _ _ d3 d4 5 5 _ HM.out HN.out (by decide)).mono ?_; rintro e w6 ⟨vm, rfl, hbm, hn⟩; rw [H6.out] at hbm; have HQ := Lib.hid hbm; have hvm := hbm.shape; clear hbm HM HN; obtain ⟨n9, a9, q9, e9, rfl⟩ := hvm)))
  replace hb := hb.trans (hn.mono hb.size)
  refine hK.out _ _ (up_iff.2 hb) ?_
  clear hK K
  clear hn
  refine wpS_doL rfl ?_
  intro K hK
  try replace HM := Lib.hid (HM.out.of hg) ;; try replace HN := Lib.hid (HN.out.of hg)
  go_wp2_with ((first | (go_at_call 88; (with_reducible refine (bigOfD_any b_y ay d3 H3.out g3 _).mono ?_); rintro e w4 ⟨vm, rfl, hbm, hn⟩; have HM := Lib.hid hbm; have hvm := hbm.shape; clear hbm; obtain ⟨n7, a7, q7, e7, rfl⟩ := hvm) | (go_at_call 88; (with_reducible refine (bigOfD_any cx ax d4 H4.out g4 _).mono ?_); rintro e w5 ⟨vm, rfl, hbm, hn⟩; have HN := Lib.hid hbm; have hvm := hbm.shape; replace HM := Lib.hid (HM.out.of hn); clear hbm; obtain ⟨n8, a8, q8, e8, rfl⟩ := hvm) | (go_at_call 21; refine (bigMul_any _ _ d3 d4 5 5 _ HM.out HN.out (by decide)).mono ?_; rintro e w6 ⟨vm, rfl, hbm, hn⟩; rw [H6.out] at hbm; have HQ := Lib.hid hbm; have hvm := hbm.shape; clear hbm HM HN; obtain ⟨n9, a9, q9, e9, rfl⟩ := hvm)))
  replace hb := hb.trans (hn.mono hb.size)
  refine hK.out _ _ (up_iff.2 hb) ?_
  clear hK K
  clear hn
  refine wpS_nil ?_
  simp only [List.drop_succ_cons, List.drop_zero]
  replace HP := Lib.hid (HP.out.of hb)
  replace KZ := Lib.hid (KZ.out.of hb)
  replace hbV := hbV.trans (hb.mono hbV.size)
  clear hb ca0 ca1 cb0 cb1 cc0 cc1 cx0 cx1 la lb lc lx
  go_wp2_with fail
  refine (bigSub_any _ _ p q 10 _ HP.out HQ.out (by decide)).mono ?_
  rintro e u5 ⟨v5, rfl, hbig, hn⟩
  rw [H7.out] at hbig
  have HBG := Lib.hid hbig
  have hvv := hbig.shape
  clear hbig
  obtain ⟨m5, b5, l5, r5, rfl⟩ := hvv
  have k5 := KZ.out.of hn
  have d0 := k5.cell 0
  have d1' := k5.cell 1
  have f0 := k5.free 0
  have f1 := k5.free 1
  simp only [List.getElem?_toArray, List.getElem?_cons_zero, List.getElem?_cons_succ] at d0 d1'
  have hb5 := hbV.trans (hn.mono hbV.size)
  have hge : w.heap.size ≤ w.heap.size + 1 + 1 + 1 := by omega
  clear hn k5 hbV HP HQ KZ
  go_wp2
  simp [bodyPost, results, Try.results49, go_sem, d0, d1']
  exact ⟨_, rfl, HBG.out.set2 d0 (.bool m5) (.slice b5 l5 r5), set2_below hb5 hge _ _⟩
end Go.Proofs.Ytgddpkopbiendaa
