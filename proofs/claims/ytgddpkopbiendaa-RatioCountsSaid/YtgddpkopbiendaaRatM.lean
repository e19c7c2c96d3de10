/- The walk of gromalaw02's RatioMakes. Conditions: the numbers are numbers of 256 bits. -/
import Derived.Test.YtgddpkopbiendaaRatF
namespace Go.Proofs.Ytgddpkopbiendaa
open Go.RowKit

theorem bigSign_is (v : Value) (n : Int) (L : Nat) (s : Int) (hs : n.sign = s) (w : World) (h : Big w v n L) :
    Calls Try.prog 28 #[v] w fun e w' => e = .returned (.int .i64 s) ∧ Below w.heap.size w w' := hs ▸ bigSign_any v n L w h
theorem Read_in (x : Int) (hx : sg x = x) (w : World) : Calls Try.prog 22 #[wI x] w (GivesBig w x 18) := by
  have := Read_any x w
  rw [hx] at this
  exact this

theorem in64_1 : In64 1 := by unfold In64; decide
theorem p255 : (2 : Int) ^ 255 = b255 := by decide

set_option maxRecDepth 100000 in
set_option maxHeartbeats 4000000 in
theorem Makes_go (x y k : Int) (w : World) (hk : In64 k) (sy : Int) (bl z px py ok : Bool) (rn rd : Int) (hsx : sg x = x) (hsy : sg y = y) (hs : y.sign = sy) (hbl : decide (sy < 0) = bl) (hz : (sy == 0) = z)
    (hpx : (cmpI x (-b255) == 0) = px) (hpy : (cmpI y (-b255) == 0) = py) (hok : ok = !(z || bl && (px || py)))
    (hT : ∀ w, Calls Try.prog 25 #[wI x, wI y] w fun e w' => e = .returned (.tuple #[rI rn rd, .bool ok]) ∧ Below w.heap.size w w')
    (h0 : ok = false → rn = 0 ∧ rd = 0) (h1 : ok = true → sg rn = rn ∧ sg rd = rd ∧ InI rd ∧ 0 < rd ∧ rn = (bif bl then -x else x) ∧ rd = (bif bl then -y else y)) :
    Calls Try.prog 4 #[wI x, wI y, .int .i64 k] w fun e w' => e = .returned (.bool true) ∧ Below w.heap.size w w' := by
  have HT := Lib.hid hT
  have SX := Lib.hid hsx
  have SY := Lib.hid hsy
  have HS := Lib.hid hs
  have HBL := Lib.hid hbl
  have HZ := Lib.hid hz
  have HPX := Lib.hid hpx
  have HPY := Lib.hid hpy
  have HOK := Lib.hid hok
  have H0 := Lib.hid h0
  have H1 := Lib.hid h1
  clear hT hsx hsy hs hbl hz hpx hpy hok h0 h1
  go_enter Try.func4, Try.ntmps4
  go_wp2_with fail
  refine calls_w ?_
  intro W hW
  have kx : Var W w.heap.size x := by rw [hW]; exact (Blk.new _ _ _).alloc _
  have ky : Var W (w.heap.size + 1) y := by rw [hW]; exact Blk.new1 _ _ _ _
  have hb0 : Below w.heap.size w W := by rw [hW]; exact below_a2 _ _ _
  clear hW
  refine (HT.out _).mono ?_
  rintro e u1 ⟨rfl, hn⟩
  replace kx : Var u1 _ _ := kx.of hn
  replace ky : Var u1 _ _ := ky.of hn
  replace hb0 := hb0.trans (hn.mono hb0.size)
  clear hn
  go_wp2_with fail
  refine name_world ?_
  intro W hW
  have kr : RVar W u1.heap.size rn rd := by rw [hW]; exact Blk.new _ _ _
  replace kx : Var W w.heap.size x := by rw [hW]; exact kx.alloc _
  replace ky : Var W (w.heap.size + 1) y := by rw [hW]; exact ky.alloc _
  replace hb0 : Below w.heap.size w W := by rw [hW]; exact hb0.alloc hb0.size _
  clear hW
  have cx := Var.c kx
  have cy := Var.c ky
  have lx := kx.lt
  have ly := ky.lt
  have KR := Lib.hid kr
  clear kx ky kr
  refine wp_region_FG2 6 4 5 [(0, 0), (0, 2), (1, 1), (1, 3)] [(3, 6), (3, 7)] (by kernel_rfl) (by kernel_rfl) (fun _ _ d _ _ => by cases d <;> exact Iff.rfl) rfl rfl rfl allocBig rfl rfl rfl allocBig rfl ?_
  have hb : Below W.heap.size W W.drew := (Below.refl _ _).drew
  iterate 2
    refine wpFG_take0 rfl rfl ?_
    go_big_quiet_step (rfl)
    refine wpQuiet_nil ?_
  refine wpFG_do rfl ?_
  intro w1 hg K hK
  replace hb := hb.trans (hg.mono hb.size)
  try replace HX := Lib.hid (HX.out.of hg)
  clear hg
  go_wp2_with ((first | (go_at_call 22; (with_reducible refine (Read_in x SX.out _).mono ?_); rintro e w5 ⟨vm, rfl, hbm, hn⟩; have HX := Lib.hid hbm; have hvm := hbm.shape; clear hbm; obtain ⟨n5, a5, q5, e5, rfl⟩ := hvm) | (go_at_call 22; (with_reducible refine (Read_in y SY.out _).mono ?_); rintro e w6 ⟨vm, rfl, hbm, hn⟩; have HY := Lib.hid hbm; have hvm := hbm.shape; replace HX := Lib.hid (HX.out.of hn); clear hbm; obtain ⟨n6, a6, q6, e6, rfl⟩ := hvm)))
  refine hK.out _ _ hn ?_
  replace hb := hb.trans (hn.mono hb.size)
  clear hK K
  clear hn
  refine wpFG_do rfl ?_
  intro w1 hg K hK
  replace hb := hb.trans (hg.mono hb.size)
  try replace HX := Lib.hid (HX.out.of hg)
  clear hg
  go_wp2_with ((first | (go_at_call 22; (with_reducible refine (Read_in x SX.out _).mono ?_); rintro e w5 ⟨vm, rfl, hbm, hn⟩; have HX := Lib.hid hbm; have hvm := hbm.shape; clear hbm; obtain ⟨n5, a5, q5, e5, rfl⟩ := hvm) | (go_at_call 22; (with_reducible refine (Read_in y SY.out _).mono ?_); rintro e w6 ⟨vm, rfl, hbm, hn⟩; have HY := Lib.hid hbm; have hvm := hbm.shape; replace HX := Lib.hid (HX.out.of hn); clear hbm; obtain ⟨n6, a6, q6, e6, rfl⟩ := hvm)))
  refine hK.out _ _ hn ?_
  replace hb := hb.trans (hn.mono hb.size)
  clear hK K
  clear hn
  refine wpFG_nil ?_
  clear hb
  intro w1 hg hb b1 b2 hne lb1 nb1 lb2 nb2
  replace HX := Lib.hid (HX.out.of hg)
  replace HY := Lib.hid (HY.out.of hg)
  clear hg
  simp only [Act.put, ptrTo, List.setIfInBounds_toArray, List.set_cons_succ, List.set_cons_zero]
  have c1 := BigVar.c (show BigVar w1 b1 false none 0 0 from nb1)
  have f1 := BigVar.f (show BigVar w1 b1 false none 0 0 from nb1)
  have c2 := BigVar.c (show BigVar w1 b2 false none 0 0 from nb2)
  have f2 := BigVar.f (show BigVar w1 b2 false none 0 0 from nb2)
  clear cx cy lx ly
  refine wpG_do3 rfl ?_
  intro K hK
  go_wp2_with (fail)
  refine hK.out _ _ ?_
  clear hK K
  refine wpG_do3 rfl ?_
  intro K hK
  go_wp2_with (fail)
  refine hK.out _ _ ?_
  clear hK K
  refine wpG_nil ?_
  refine list_world ?_
  intro V hV
  have g1 : BigVar w1 b1 false none 0 0 := nb1
  have g2 : BigVar w1 b2 false none 0 0 := nb2
  have h1 : b1 ≠ b2 := hne
  have m2 : BigVar ((w1.setCell ⟨b1, 0, none⟩ (.bool n5)).setCell ⟨b1, 1, none⟩ (.slice a5 q5 e5)) b2 false none 0 0 := (g2.set h1.symm _ _ _).set h1.symm _ _ _
  have hge1 : w.heap.size ≤ b1 := Nat.le_trans hb0.size lb1
  have hge2 : w.heap.size ≤ b2 := Nat.le_trans hb0.size lb2
  have kX : BigVar V b1 n5 a5 q5 e5 := by rw [hV]; exact (((Blk.put g1 0 _).put 1 _).set h1 _ _ _).set h1 _ _ _
  have kY : BigVar V b2 n6 a6 q6 e6 := by rw [hV]; exact (Blk.put m2 0 _).put 1 _
  replace HX := Lib.hid (show Big V (.agg #[.bool n5, .slice a5 q5 e5]) x 18 by rw [hV]; exact (HX.out.set2 (g1.cell 0) _ _).set2 (m2.cell 0) _ _)
  replace HY := Lib.hid (show Big V (.agg #[.bool n6, .slice a6 q6 e6]) y 18 by rw [hV]; exact (HY.out.set2 (g1.cell 0) _ _).set2 (m2.cell 0) _ _)
  have hr1 : u1.heap.size ≠ b1 := by have := KR.out.lt; omega
  have hr2 : u1.heap.size ≠ b2 := by have := KR.out.lt; omega
  have kr : RVar V u1.heap.size rn rd := by rw [hV]; exact ((((KR.out.of hb).set hr1 _ _ _).set hr1 _ _ _).set hr2 _ _ _).set hr2 _ _ _
  have hbV : Below w.heap.size w V := by rw [hV]; exact set2_below (set2_below (hb0.trans (hb.mono hb0.size)) hge1 _ _) hge2 _ _
  have NR := Lib.hid (And.intro hr1 hr2)
  clear hV g1 g2 m2 nb1 nb2 c1 f1 c2 f2 lb1 lb2 hb KR hb0 hr1 hr2
  go_wp2_with fail
  refine (Power_any 255 _ (by decide)).mono ?_
  rintro e u2 ⟨vm, rfl, hbm, hn⟩
  replace kX : BigVar u2 _ _ _ _ _ := kX.of hn
  replace kY : BigVar u2 _ _ _ _ _ := kY.of hn
  replace kr : RVar u2 _ _ _ := kr.of hn
  replace HX := Lib.hid (HX.out.of hn)
  replace HY := Lib.hid (HY.out.of hn)
  replace hbV := hbV.trans (hn.mono hbV.size)
  have HM := Lib.hid hbm
  have hvm := hbm.shape
  clear hbm hn
  obtain ⟨n7, a7, q7, e7, rfl⟩ := hvm
  go_wp2_with fail
  refine (Minus_any _ _ _ _ HM.out).mono ?_
  rintro e u3 ⟨vm, rfl, hbm, hn⟩
  replace kX : BigVar u3 _ _ _ _ _ := kX.of hn
  replace kY : BigVar u3 _ _ _ _ _ := kY.of hn
  replace kr : RVar u3 _ _ _ := kr.of hn
  replace HX := Lib.hid (HX.out.of hn)
  replace HY := Lib.hid (HY.out.of hn)
  replace hbV := hbV.trans (hn.mono hbV.size)
  rw [show -(2 : Int) ^ 255 = -b255 by rw [p255]] at hbm
  have HL := Lib.hid hbm
  have hvm := hbm.shape
  clear hbm hn HM
  obtain ⟨n8, a8, q8, e8, rfl⟩ := hvm
  have cY := BigVar.c kY
  have lY := kY.lt
  go_wp2_with fail
  refine calls_w ?_
  intro V3 hV
  have h3 : Below u3.heap.size u3 V3 := by rw [hV]; exact below_a1 _ _
  have kL : BigVar V3 u3.heap.size n8 a8 q8 e8 := by rw [hV]; exact Blk.new _ _ _
  replace kX : BigVar V3 _ _ _ _ _ := kX.of h3
  replace kY : BigVar V3 _ _ _ _ _ := kY.of h3
  replace kr : RVar V3 _ _ _ := kr.of h3
  replace HX := Lib.hid (HX.out.of h3)
  replace HY := Lib.hid (HY.out.of h3)
  replace HL := Lib.hid (HL.out.of h3)
  replace hbV := hbV.trans (h3.mono hbV.size)
  clear hV h3 cY lY
  refine (bigSign_is _ y 18 sy HS.out _ HY.out).mono ?_
  rintro e u4 ⟨rfl, hn⟩
  replace kX : BigVar u4 _ _ _ _ _ := kX.of hn
  replace kY : BigVar u4 _ _ _ _ _ := kY.of hn
  replace kL : BigVar u4 _ _ _ _ _ := kL.of hn
  replace kr : RVar u4 _ _ _ := kr.of hn
  replace HX := Lib.hid (HX.out.of hn)
  replace HY := Lib.hid (HY.out.of hn)
  replace HL := Lib.hid (HL.out.of hn)
  replace hbV := hbV.trans (hn.mono hbV.size)
  clear hn
  have cY := BigVar.c kY
  have hbl := HBL.out
  go_wp2_with fail
  refine (bigSign_is _ y 18 sy HS.out _ HY.out).mono ?_
  rintro e u5 ⟨rfl, hn⟩
  replace kX : BigVar u5 _ _ _ _ _ := kX.of hn
  replace kY : BigVar u5 _ _ _ _ _ := kY.of hn
  replace kL : BigVar u5 _ _ _ _ _ := kL.of hn
  replace kr : RVar u5 _ _ _ := kr.of hn
  replace HX := Lib.hid (HX.out.of hn)
  replace HY := Lib.hid (HY.out.of hn)
  replace HL := Lib.hid (HL.out.of hn)
  replace hbV := hbV.trans (hn.mono hbV.size)
  clear hn cY hbl
  have hz := HZ.out
  cases z
  · cases bl
    · have hok : ok = true := by have := HOK.out; simpa using this
      subst hok
      obtain ⟨s1, s2, i2, p2, r1, r2⟩ := H1.out rfl
      rw [cond_false] at r1 r2
      have S1 := Lib.hid s1
      have S2 := Lib.hid s2
      have IR := Lib.hid i2
      have PR := Lib.hid (decide_eq_true p2)
      replace HX := Lib.hid (show Big u5 (.agg #[.bool n5, .slice a5 q5 e5]) rn 18 by rw [r1]; exact HX.out)
      replace HY := Lib.hid (show Big u5 (.agg #[.bool n6, .slice a6 q6 e6]) rd 18 by rw [r2]; exact HY.out)
      clear s1 s2 i2 p2 r1 r2
      go_wp2_with fail
      have cR := RVar.c kr
      have cX := BigVar.c kX
      have cY := BigVar.c kY
      have lR := kr.lt
      have lX := kX.lt
      have lY := kY.lt
      have HBV := Lib.hid hbV
      clear kr kX kY kL hbV
      refine wp_region_up u5.heap.size 25 [(true, 0), (true, 1), (true, 2), (true, 3), (true, 5), (false, 4), (false, 6), (true, 7), (true, 8), (true, 9), (true, 10), (true, 11), (true, 13), (false, 12), (false, 14), (true, 15), (true, 16), (true, 17), (true, 18), (false, 19), (true, 20), (true, 21), (true, 22), (true, 24), (false, 23)] (by kernel_rfl) (by kernel_rfl) (fun _ _ d _ _ h => by cases d <;> exact h) ?_
      have hb : Below u5.heap.size u5 u5.drew := (Below.refl _ _).drew
      iterate 5
        refine wpS_takeL rfl rfl ?_
        go_big_quiet_step (rfl)
        refine wpQuiet_nil ?_
      refine wpS_doL rfl ?_
      intro K hK
      go_wp2_with ((first | (go_at_call 22; (with_reducible refine (Read_in rn S1.out _).mono ?_); rintro e wa ⟨vm, rfl, hbm, hn⟩; have HR := Lib.hid hbm; have hvm := hbm.shape; clear hbm; obtain ⟨n9, a9, q9, e9, rfl⟩ := hvm) | (go_at_call 24; (with_reducible refine (bigCmp_is (.agg #[.bool n9, .slice a9 q9 e9]) _ rn rn 18 18 0 (cmpI_eq _) _ HR.out (HX.out.of hb)).mono ?_); rintro e wb ⟨rfl, hn⟩; clear HR) | (go_at_call 22; (with_reducible refine (Read_in rd S2.out _).mono ?_); rintro e wc ⟨vm, rfl, hbm, hn⟩; have HR2 := Lib.hid hbm; have hvm := hbm.shape; clear hbm; obtain ⟨n10, a10, q10, e10, rfl⟩ := hvm) | (go_at_call 24; (with_reducible refine (bigCmp_is (.agg #[.bool n10, .slice a10 q10 e10]) _ rd rd 18 18 0 (cmpI_eq _) _ HR2.out (HY.out.of hb)).mono ?_); rintro e wd ⟨rfl, hn⟩; clear HR2) | (go_at_call 29; refine (Right_is rn rd _ IR.out true PR.out).mono ?_; rintro e we ⟨rfl, hn⟩) | (go_at_call 30; refine (RatOf_any k _ hk).mono ?_; rintro e wf ⟨rfl, hn⟩)))
      try replace hb := hb.trans (hn.mono hb.size)
      refine hK.out _ _ (up_iff.2 hb) ?_
      clear hK K
      try clear hn
      refine wpS_doL rfl ?_
      intro K hK
      go_wp2_with ((first | (go_at_call 22; (with_reducible refine (Read_in rn S1.out _).mono ?_); rintro e wa ⟨vm, rfl, hbm, hn⟩; have HR := Lib.hid hbm; have hvm := hbm.shape; clear hbm; obtain ⟨n9, a9, q9, e9, rfl⟩ := hvm) | (go_at_call 24; (with_reducible refine (bigCmp_is (.agg #[.bool n9, .slice a9 q9 e9]) _ rn rn 18 18 0 (cmpI_eq _) _ HR.out (HX.out.of hb)).mono ?_); rintro e wb ⟨rfl, hn⟩; clear HR) | (go_at_call 22; (with_reducible refine (Read_in rd S2.out _).mono ?_); rintro e wc ⟨vm, rfl, hbm, hn⟩; have HR2 := Lib.hid hbm; have hvm := hbm.shape; clear hbm; obtain ⟨n10, a10, q10, e10, rfl⟩ := hvm) | (go_at_call 24; (with_reducible refine (bigCmp_is (.agg #[.bool n10, .slice a10 q10 e10]) _ rd rd 18 18 0 (cmpI_eq _) _ HR2.out (HY.out.of hb)).mono ?_); rintro e wd ⟨rfl, hn⟩; clear HR2) | (go_at_call 29; refine (Right_is rn rd _ IR.out true PR.out).mono ?_; rintro e we ⟨rfl, hn⟩) | (go_at_call 30; refine (RatOf_any k _ hk).mono ?_; rintro e wf ⟨rfl, hn⟩)))
      try replace hb := hb.trans (hn.mono hb.size)
      refine hK.out _ _ (up_iff.2 hb) ?_
      clear hK K
      try clear hn
      iterate 6
        refine wpS_takeL rfl rfl ?_
        go_big_quiet_step (rfl)
        refine wpQuiet_nil ?_
      refine wpS_doL rfl ?_
      intro K hK
      go_wp2_with ((first | (go_at_call 22; (with_reducible refine (Read_in rn S1.out _).mono ?_); rintro e wa ⟨vm, rfl, hbm, hn⟩; have HR := Lib.hid hbm; have hvm := hbm.shape; clear hbm; obtain ⟨n9, a9, q9, e9, rfl⟩ := hvm) | (go_at_call 24; (with_reducible refine (bigCmp_is (.agg #[.bool n9, .slice a9 q9 e9]) _ rn rn 18 18 0 (cmpI_eq _) _ HR.out (HX.out.of hb)).mono ?_); rintro e wb ⟨rfl, hn⟩; clear HR) | (go_at_call 22; (with_reducible refine (Read_in rd S2.out _).mono ?_); rintro e wc ⟨vm, rfl, hbm, hn⟩; have HR2 := Lib.hid hbm; have hvm := hbm.shape; clear hbm; obtain ⟨n10, a10, q10, e10, rfl⟩ := hvm) | (go_at_call 24; (with_reducible refine (bigCmp_is (.agg #[.bool n10, .slice a10 q10 e10]) _ rd rd 18 18 0 (cmpI_eq _) _ HR2.out (HY.out.of hb)).mono ?_); rintro e wd ⟨rfl, hn⟩; clear HR2) | (go_at_call 29; refine (Right_is rn rd _ IR.out true PR.out).mono ?_; rintro e we ⟨rfl, hn⟩) | (go_at_call 30; refine (RatOf_any k _ hk).mono ?_; rintro e wf ⟨rfl, hn⟩)))
      try replace hb := hb.trans (hn.mono hb.size)
      refine hK.out _ _ (up_iff.2 hb) ?_
      clear hK K
      try clear hn
      refine wpS_doL rfl ?_
      intro K hK
      go_wp2_with ((first | (go_at_call 22; (with_reducible refine (Read_in rn S1.out _).mono ?_); rintro e wa ⟨vm, rfl, hbm, hn⟩; have HR := Lib.hid hbm; have hvm := hbm.shape; clear hbm; obtain ⟨n9, a9, q9, e9, rfl⟩ := hvm) | (go_at_call 24; (with_reducible refine (bigCmp_is (.agg #[.bool n9, .slice a9 q9 e9]) _ rn rn 18 18 0 (cmpI_eq _) _ HR.out (HX.out.of hb)).mono ?_); rintro e wb ⟨rfl, hn⟩; clear HR) | (go_at_call 22; (with_reducible refine (Read_in rd S2.out _).mono ?_); rintro e wc ⟨vm, rfl, hbm, hn⟩; have HR2 := Lib.hid hbm; have hvm := hbm.shape; clear hbm; obtain ⟨n10, a10, q10, e10, rfl⟩ := hvm) | (go_at_call 24; (with_reducible refine (bigCmp_is (.agg #[.bool n10, .slice a10 q10 e10]) _ rd rd 18 18 0 (cmpI_eq _) _ HR2.out (HY.out.of hb)).mono ?_); rintro e wd ⟨rfl, hn⟩; clear HR2) | (go_at_call 29; refine (Right_is rn rd _ IR.out true PR.out).mono ?_; rintro e we ⟨rfl, hn⟩) | (go_at_call 30; refine (RatOf_any k _ hk).mono ?_; rintro e wf ⟨rfl, hn⟩)))
      try replace hb := hb.trans (hn.mono hb.size)
      refine hK.out _ _ (up_iff.2 hb) ?_
      clear hK K
      try clear hn
      iterate 4
        refine wpS_takeL rfl rfl ?_
        go_big_quiet_step (rfl)
        refine wpQuiet_nil ?_
      refine wpS_doL rfl ?_
      intro K hK
      go_wp2_with ((first | (go_at_call 22; (with_reducible refine (Read_in rn S1.out _).mono ?_); rintro e wa ⟨vm, rfl, hbm, hn⟩; have HR := Lib.hid hbm; have hvm := hbm.shape; clear hbm; obtain ⟨n9, a9, q9, e9, rfl⟩ := hvm) | (go_at_call 24; (with_reducible refine (bigCmp_is (.agg #[.bool n9, .slice a9 q9 e9]) _ rn rn 18 18 0 (cmpI_eq _) _ HR.out (HX.out.of hb)).mono ?_); rintro e wb ⟨rfl, hn⟩; clear HR) | (go_at_call 22; (with_reducible refine (Read_in rd S2.out _).mono ?_); rintro e wc ⟨vm, rfl, hbm, hn⟩; have HR2 := Lib.hid hbm; have hvm := hbm.shape; clear hbm; obtain ⟨n10, a10, q10, e10, rfl⟩ := hvm) | (go_at_call 24; (with_reducible refine (bigCmp_is (.agg #[.bool n10, .slice a10 q10 e10]) _ rd rd 18 18 0 (cmpI_eq _) _ HR2.out (HY.out.of hb)).mono ?_); rintro e wd ⟨rfl, hn⟩; clear HR2) | (go_at_call 29; refine (Right_is rn rd _ IR.out true PR.out).mono ?_; rintro e we ⟨rfl, hn⟩) | (go_at_call 30; refine (RatOf_any k _ hk).mono ?_; rintro e wf ⟨rfl, hn⟩)))
      try replace hb := hb.trans (hn.mono hb.size)
      refine hK.out _ _ (up_iff.2 hb) ?_
      clear hK K
      try clear hn
      iterate 4
        refine wpS_takeL rfl rfl ?_
        go_big_quiet_step (rfl)
        refine wpQuiet_nil ?_
      refine wpS_doL rfl ?_
      intro K hK
      go_wp2_with ((first | (go_at_call 22; (with_reducible refine (Read_in rn S1.out _).mono ?_); rintro e wa ⟨vm, rfl, hbm, hn⟩; have HR := Lib.hid hbm; have hvm := hbm.shape; clear hbm; obtain ⟨n9, a9, q9, e9, rfl⟩ := hvm) | (go_at_call 24; (with_reducible refine (bigCmp_is (.agg #[.bool n9, .slice a9 q9 e9]) _ rn rn 18 18 0 (cmpI_eq _) _ HR.out (HX.out.of hb)).mono ?_); rintro e wb ⟨rfl, hn⟩; clear HR) | (go_at_call 22; (with_reducible refine (Read_in rd S2.out _).mono ?_); rintro e wc ⟨vm, rfl, hbm, hn⟩; have HR2 := Lib.hid hbm; have hvm := hbm.shape; clear hbm; obtain ⟨n10, a10, q10, e10, rfl⟩ := hvm) | (go_at_call 24; (with_reducible refine (bigCmp_is (.agg #[.bool n10, .slice a10 q10 e10]) _ rd rd 18 18 0 (cmpI_eq _) _ HR2.out (HY.out.of hb)).mono ?_); rintro e wd ⟨rfl, hn⟩; clear HR2) | (go_at_call 29; refine (Right_is rn rd _ IR.out true PR.out).mono ?_; rintro e we ⟨rfl, hn⟩) | (go_at_call 30; refine (RatOf_any k _ hk).mono ?_; rintro e wf ⟨rfl, hn⟩)))
      try replace hb := hb.trans (hn.mono hb.size)
      refine hK.out _ _ (up_iff.2 hb) ?_
      clear hK K
      try clear hn
      refine wpS_nil ?_
      simp only [List.drop_succ_cons, List.drop_zero]
      have hb2 := HBV.out.trans (hb.mono HBV.out.size)
      clear cR cX cY lR lX lY HBV hb
      have e1 := eq4_same (wd0 k) (wd1 k) (wd2 k) (wd3 k)
      have e2 := eq4_same (wd0 1) (wd1 1) (wd2 1) (wd3 1)
      go_wp2_with fail
      refine (Of_any k _ hk).mono ?_
      rintro e wg ⟨rfl, hn⟩
      replace hb2 := hb2.trans (hn.mono hb2.size)
      clear hn
      go_wp2_with fail
      refine (Of_any 1 _ in64_1).mono ?_
      rintro e wh ⟨rfl, hn⟩
      replace hb2 := hb2.trans (hn.mono hb2.size)
      clear hn
      go_wp2_with fail
      refine (awake_any _).mono ?_
      rintro e wi ⟨rfl, hn⟩
      replace hb2 := hb2.trans (hn.mono hb2.size)
      clear hn e1 e2
      go_wp2
      go_ret
      exact ⟨rfl, hb2⟩
    · have cX := BigVar.c kX
      have cY := BigVar.c kY
      have cL := BigVar.c kL
      have hpx := HPX.out
      go_wp2_with fail
      refine (bigCmp_any _ _ x (-b255) 18 _ _ HX.out HL.out).mono ?_
      rintro e u6 ⟨rfl, hn⟩
      replace kX : BigVar u6 _ _ _ _ _ := kX.of hn
      replace kY : BigVar u6 _ _ _ _ _ := kY.of hn
      replace kL : BigVar u6 _ _ _ _ _ := kL.of hn
      replace kr : RVar u6 _ _ _ := kr.of hn
      replace HX := Lib.hid (HX.out.of hn)
      replace HY := Lib.hid (HY.out.of hn)
      replace HL := Lib.hid (HL.out.of hn)
      replace hbV := hbV.trans (hn.mono hbV.size)
      clear hn cX cY cL
      cases px
      · have cX := BigVar.c kX
        have cY := BigVar.c kY
        have cL := BigVar.c kL
        have hpy := HPY.out
        go_wp2_with fail
        refine (bigCmp_any _ _ y (-b255) 18 _ _ HY.out HL.out).mono ?_
        rintro e u7 ⟨rfl, hn⟩
        replace kX : BigVar u7 _ _ _ _ _ := kX.of hn
        replace kY : BigVar u7 _ _ _ _ _ := kY.of hn
        replace kL : BigVar u7 _ _ _ _ _ := kL.of hn
        replace kr : RVar u7 _ _ _ := kr.of hn
        replace HX := Lib.hid (HX.out.of hn)
        replace HY := Lib.hid (HY.out.of hn)
        replace hbV := hbV.trans (hn.mono hbV.size)
        clear hn cX cY cL HL
        cases py
        · have hok : ok = true := by have := HOK.out; simpa using this
          subst hok
          obtain ⟨s1, s2, i2, p2, r1, r2⟩ := H1.out rfl
          rw [cond_true] at r1 r2
          have S1 := Lib.hid s1
          have S2 := Lib.hid s2
          have IR := Lib.hid i2
          have PR := Lib.hid (decide_eq_true p2)
          have R1 := Lib.hid r1
          have R2 := Lib.hid r2
          clear s1 s2 i2 p2 r1 r2
          go_wp2_with fail
          clear hpx hpy hz
          have cX := BigVar.c kX
          have cY := BigVar.c kY
          have lX := kX.lt
          have lY := kY.lt
          have KX := Lib.hid kX
          have KY := Lib.hid kY
          have KR := Lib.hid kr
          have HBV := Lib.hid hbV
          clear kX kY kL kr hbV
          refine wp_region_up u7.heap.size 3 [(true, 0), (true, 2), (false, 1)] (by kernel_rfl) (by kernel_rfl) (fun _ _ d _ _ h => by cases d <;> exact h) ?_
          have hb : Below u7.heap.size u7 u7.drew := (Below.refl _ _).drew
          iterate 2
            refine wpS_takeL rfl rfl ?_
            go_big_quiet_step (rfl)
            refine wpQuiet_nil ?_
          refine wpS_doL rfl ?_
          intro K hK
          go_wp2_with ((go_at_call 26; refine (Minus_any _ x 18 _ (HX.out.of hb)).mono ?_; rintro e wa ⟨vm, rfl, hbm, hn⟩; have HR := Lib.hid hbm; have hvm := hbm.shape; clear hbm; obtain ⟨n9, a9, q9, e9, rfl⟩ := hvm))
          replace hb := hb.trans (hn.mono hb.size)
          refine hK.out _ _ (up_iff.2 hb) ?_
          clear hK K
          clear hn
          refine wpS_nil ?_
          simp only [List.drop_succ_cons, List.drop_zero]
          have hb2 := HBV.out.trans (hb.mono HBV.out.size)
          replace KX := Lib.hid (KX.out.of hb)
          replace KY := Lib.hid (KY.out.of hb)
          replace KR := Lib.hid (KR.out.of hb)
          replace HY := Lib.hid (HY.out.of hb)
          clear HX hb cX cY lX lY HBV
          have cY := BigVar.c KY.out
          go_wp2_with fail
          refine (Minus_any _ y 18 _ HY.out).mono ?_
          rintro e wb ⟨vm, rfl, hbm, hn⟩
          replace KX := Lib.hid (KX.out.of hn)
          replace KY := Lib.hid (KY.out.of hn)
          replace KR := Lib.hid (KR.out.of hn)
          replace HR := Lib.hid (HR.out.of hn)
          replace hb2 := hb2.trans (hn.mono hb2.size)
          rw [← R2.out] at hbm
          rw [← R1.out] at HR
          have HQ := Lib.hid hbm
          have hvm := hbm.shape
          clear hbm hn HY cY
          obtain ⟨n11, a11, q11, e11, rfl⟩ := hvm
          have cX := BigVar.c KX.out
          have cY := BigVar.c KY.out
          have fX := BigVar.f KX.out
          have fY := BigVar.f KY.out
          have ne1 : b1 ≠ b2 := h1
          go_wp2_with fail
          refine name_world ?_
          intro u9 hu
          have m1 : BigVar wb b1 n5 a5 q5 e5 := KX.out
          have m2 : BigVar wb b2 n6 a6 q6 e6 := KY.out
          have m3 : BigVar ((wb.setCell ⟨b1, 0, none⟩ (.bool n9)).setCell ⟨b1, 1, none⟩ (.slice a9 q9 e9)) b2 n6 a6 q6 e6 := (m2.set h1.symm _ _ _).set h1.symm _ _ _
          have kX : BigVar u9 b1 n9 a9 q9 e9 := by rw [hu]; exact (((Blk.put m1 0 _).put 1 _).set h1 _ _ _).set h1 _ _ _
          have kY : BigVar u9 b2 n11 a11 q11 e11 := by rw [hu]; exact (Blk.put m3 0 _).put 1 _
          have hr1 : u1.heap.size ≠ b1 := NR.out.1
          have hr2 : u1.heap.size ≠ b2 := NR.out.2
          have kr : RVar u9 u1.heap.size rn rd := by rw [hu]; exact (((KR.out.set hr1 _ _ _).set hr1 _ _ _).set hr2 _ _ _).set hr2 _ _ _
          have HX := Lib.hid (show Big u9 (.agg #[.bool n9, .slice a9 q9 e9]) rn 18 by rw [hu]; exact (HR.out.set2 (m1.cell 0) _ _).set2 (m3.cell 0) _ _)
          have HY := Lib.hid (show Big u9 (.agg #[.bool n11, .slice a11 q11 e11]) rd 18 by rw [hu]; exact (HQ.out.set2 (m1.cell 0) _ _).set2 (m3.cell 0) _ _)
          have hbV : Below w.heap.size w u9 := by rw [hu]; exact set2_below (set2_below hb2 hge1 _ _) hge2 _ _
          clear hu m1 m2 m3 KX KY KR HR HQ cX cY fX fY hb2 ne1 hr1 hr2
          have cR := RVar.c kr
          have cX := BigVar.c kX
          have cY := BigVar.c kY
          have lR := kr.lt
          have lX := kX.lt
          have lY := kY.lt
          have HBV := Lib.hid hbV
          clear kr kX kY hbV
          refine wp_region_up u9.heap.size 25 [(true, 0), (true, 1), (true, 2), (true, 3), (true, 5), (false, 4), (false, 6), (true, 7), (true, 8), (true, 9), (true, 10), (true, 11), (true, 13), (false, 12), (false, 14), (true, 15), (true, 16), (true, 17), (true, 18), (false, 19), (true, 20), (true, 21), (true, 22), (true, 24), (false, 23)] (by kernel_rfl) (by kernel_rfl) (fun _ _ d _ _ h => by cases d <;> exact h) ?_
          have hb : Below u9.heap.size u9 u9.drew := (Below.refl _ _).drew
          iterate 5
            refine wpS_takeL rfl rfl ?_
            go_big_quiet_step (rfl)
            refine wpQuiet_nil ?_
          refine wpS_doL rfl ?_
          intro K hK
          go_wp2_with ((first | (go_at_call 22; (with_reducible refine (Read_in rn S1.out _).mono ?_); rintro e wa ⟨vm, rfl, hbm, hn⟩; have HR := Lib.hid hbm; have hvm := hbm.shape; clear hbm; obtain ⟨n12, a12, q12, e12, rfl⟩ := hvm) | (go_at_call 24; (with_reducible refine (bigCmp_is (.agg #[.bool n12, .slice a12 q12 e12]) _ rn rn 18 18 0 (cmpI_eq _) _ HR.out (HX.out.of hb)).mono ?_); rintro e wb ⟨rfl, hn⟩; clear HR) | (go_at_call 22; (with_reducible refine (Read_in rd S2.out _).mono ?_); rintro e wc ⟨vm, rfl, hbm, hn⟩; have HR2 := Lib.hid hbm; have hvm := hbm.shape; clear hbm; obtain ⟨n10, a10, q10, e10, rfl⟩ := hvm) | (go_at_call 24; (with_reducible refine (bigCmp_is (.agg #[.bool n10, .slice a10 q10 e10]) _ rd rd 18 18 0 (cmpI_eq _) _ HR2.out (HY.out.of hb)).mono ?_); rintro e wd ⟨rfl, hn⟩; clear HR2) | (go_at_call 29; refine (Right_is rn rd _ IR.out true PR.out).mono ?_; rintro e we ⟨rfl, hn⟩) | (go_at_call 30; refine (RatOf_any k _ hk).mono ?_; rintro e wf ⟨rfl, hn⟩)))
          try replace hb := hb.trans (hn.mono hb.size)
          refine hK.out _ _ (up_iff.2 hb) ?_
          clear hK K
          try clear hn
          refine wpS_doL rfl ?_
          intro K hK
          go_wp2_with ((first | (go_at_call 22; (with_reducible refine (Read_in rn S1.out _).mono ?_); rintro e wa ⟨vm, rfl, hbm, hn⟩; have HR := Lib.hid hbm; have hvm := hbm.shape; clear hbm; obtain ⟨n12, a12, q12, e12, rfl⟩ := hvm) | (go_at_call 24; (with_reducible refine (bigCmp_is (.agg #[.bool n12, .slice a12 q12 e12]) _ rn rn 18 18 0 (cmpI_eq _) _ HR.out (HX.out.of hb)).mono ?_); rintro e wb ⟨rfl, hn⟩; clear HR) | (go_at_call 22; (with_reducible refine (Read_in rd S2.out _).mono ?_); rintro e wc ⟨vm, rfl, hbm, hn⟩; have HR2 := Lib.hid hbm; have hvm := hbm.shape; clear hbm; obtain ⟨n10, a10, q10, e10, rfl⟩ := hvm) | (go_at_call 24; (with_reducible refine (bigCmp_is (.agg #[.bool n10, .slice a10 q10 e10]) _ rd rd 18 18 0 (cmpI_eq _) _ HR2.out (HY.out.of hb)).mono ?_); rintro e wd ⟨rfl, hn⟩; clear HR2) | (go_at_call 29; refine (Right_is rn rd _ IR.out true PR.out).mono ?_; rintro e we ⟨rfl, hn⟩) | (go_at_call 30; refine (RatOf_any k _ hk).mono ?_; rintro e wf ⟨rfl, hn⟩)))
          try replace hb := hb.trans (hn.mono hb.size)
          refine hK.out _ _ (up_iff.2 hb) ?_
          clear hK K
          try clear hn
          iterate 6
            refine wpS_takeL rfl rfl ?_
            go_big_quiet_step (rfl)
            refine wpQuiet_nil ?_
          refine wpS_doL rfl ?_
          intro K hK
          go_wp2_with ((first | (go_at_call 22; (with_reducible refine (Read_in rn S1.out _).mono ?_); rintro e wa ⟨vm, rfl, hbm, hn⟩; have HR := Lib.hid hbm; have hvm := hbm.shape; clear hbm; obtain ⟨n12, a12, q12, e12, rfl⟩ := hvm) | (go_at_call 24; (with_reducible refine (bigCmp_is (.agg #[.bool n12, .slice a12 q12 e12]) _ rn rn 18 18 0 (cmpI_eq _) _ HR.out (HX.out.of hb)).mono ?_); rintro e wb ⟨rfl, hn⟩; clear HR) | (go_at_call 22; (with_reducible refine (Read_in rd S2.out _).mono ?_); rintro e wc ⟨vm, rfl, hbm, hn⟩; have HR2 := Lib.hid hbm; have hvm := hbm.shape; clear hbm; obtain ⟨n10, a10, q10, e10, rfl⟩ := hvm) | (go_at_call 24; (with_reducible refine (bigCmp_is (.agg #[.bool n10, .slice a10 q10 e10]) _ rd rd 18 18 0 (cmpI_eq _) _ HR2.out (HY.out.of hb)).mono ?_); rintro e wd ⟨rfl, hn⟩; clear HR2) | (go_at_call 29; refine (Right_is rn rd _ IR.out true PR.out).mono ?_; rintro e we ⟨rfl, hn⟩) | (go_at_call 30; refine (RatOf_any k _ hk).mono ?_; rintro e wf ⟨rfl, hn⟩)))
          try replace hb := hb.trans (hn.mono hb.size)
          refine hK.out _ _ (up_iff.2 hb) ?_
          clear hK K
          try clear hn
          refine wpS_doL rfl ?_
          intro K hK
          go_wp2_with ((first | (go_at_call 22; (with_reducible refine (Read_in rn S1.out _).mono ?_); rintro e wa ⟨vm, rfl, hbm, hn⟩; have HR := Lib.hid hbm; have hvm := hbm.shape; clear hbm; obtain ⟨n12, a12, q12, e12, rfl⟩ := hvm) | (go_at_call 24; (with_reducible refine (bigCmp_is (.agg #[.bool n12, .slice a12 q12 e12]) _ rn rn 18 18 0 (cmpI_eq _) _ HR.out (HX.out.of hb)).mono ?_); rintro e wb ⟨rfl, hn⟩; clear HR) | (go_at_call 22; (with_reducible refine (Read_in rd S2.out _).mono ?_); rintro e wc ⟨vm, rfl, hbm, hn⟩; have HR2 := Lib.hid hbm; have hvm := hbm.shape; clear hbm; obtain ⟨n10, a10, q10, e10, rfl⟩ := hvm) | (go_at_call 24; (with_reducible refine (bigCmp_is (.agg #[.bool n10, .slice a10 q10 e10]) _ rd rd 18 18 0 (cmpI_eq _) _ HR2.out (HY.out.of hb)).mono ?_); rintro e wd ⟨rfl, hn⟩; clear HR2) | (go_at_call 29; refine (Right_is rn rd _ IR.out true PR.out).mono ?_; rintro e we ⟨rfl, hn⟩) | (go_at_call 30; refine (RatOf_any k _ hk).mono ?_; rintro e wf ⟨rfl, hn⟩)))
          try replace hb := hb.trans (hn.mono hb.size)
          refine hK.out _ _ (up_iff.2 hb) ?_
          clear hK K
          try clear hn
          iterate 4
            refine wpS_takeL rfl rfl ?_
            go_big_quiet_step (rfl)
            refine wpQuiet_nil ?_
          refine wpS_doL rfl ?_
          intro K hK
          go_wp2_with ((first | (go_at_call 22; (with_reducible refine (Read_in rn S1.out _).mono ?_); rintro e wa ⟨vm, rfl, hbm, hn⟩; have HR := Lib.hid hbm; have hvm := hbm.shape; clear hbm; obtain ⟨n12, a12, q12, e12, rfl⟩ := hvm) | (go_at_call 24; (with_reducible refine (bigCmp_is (.agg #[.bool n12, .slice a12 q12 e12]) _ rn rn 18 18 0 (cmpI_eq _) _ HR.out (HX.out.of hb)).mono ?_); rintro e wb ⟨rfl, hn⟩; clear HR) | (go_at_call 22; (with_reducible refine (Read_in rd S2.out _).mono ?_); rintro e wc ⟨vm, rfl, hbm, hn⟩; have HR2 := Lib.hid hbm; have hvm := hbm.shape; clear hbm; obtain ⟨n10, a10, q10, e10, rfl⟩ := hvm) | (go_at_call 24; (with_reducible refine (bigCmp_is (.agg #[.bool n10, .slice a10 q10 e10]) _ rd rd 18 18 0 (cmpI_eq _) _ HR2.out (HY.out.of hb)).mono ?_); rintro e wd ⟨rfl, hn⟩; clear HR2) | (go_at_call 29; refine (Right_is rn rd _ IR.out true PR.out).mono ?_; rintro e we ⟨rfl, hn⟩) | (go_at_call 30; refine (RatOf_any k _ hk).mono ?_; rintro e wf ⟨rfl, hn⟩)))
          try replace hb := hb.trans (hn.mono hb.size)
          refine hK.out _ _ (up_iff.2 hb) ?_
          clear hK K
          try clear hn
          iterate 4
            refine wpS_takeL rfl rfl ?_
            go_big_quiet_step (rfl)
            refine wpQuiet_nil ?_
          refine wpS_doL rfl ?_
          intro K hK
          go_wp2_with ((first | (go_at_call 22; (with_reducible refine (Read_in rn S1.out _).mono ?_); rintro e wa ⟨vm, rfl, hbm, hn⟩; have HR := Lib.hid hbm; have hvm := hbm.shape; clear hbm; obtain ⟨n12, a12, q12, e12, rfl⟩ := hvm) | (go_at_call 24; (with_reducible refine (bigCmp_is (.agg #[.bool n12, .slice a12 q12 e12]) _ rn rn 18 18 0 (cmpI_eq _) _ HR.out (HX.out.of hb)).mono ?_); rintro e wb ⟨rfl, hn⟩; clear HR) | (go_at_call 22; (with_reducible refine (Read_in rd S2.out _).mono ?_); rintro e wc ⟨vm, rfl, hbm, hn⟩; have HR2 := Lib.hid hbm; have hvm := hbm.shape; clear hbm; obtain ⟨n10, a10, q10, e10, rfl⟩ := hvm) | (go_at_call 24; (with_reducible refine (bigCmp_is (.agg #[.bool n10, .slice a10 q10 e10]) _ rd rd 18 18 0 (cmpI_eq _) _ HR2.out (HY.out.of hb)).mono ?_); rintro e wd ⟨rfl, hn⟩; clear HR2) | (go_at_call 29; refine (Right_is rn rd _ IR.out true PR.out).mono ?_; rintro e we ⟨rfl, hn⟩) | (go_at_call 30; refine (RatOf_any k _ hk).mono ?_; rintro e wf ⟨rfl, hn⟩)))
          try replace hb := hb.trans (hn.mono hb.size)
          refine hK.out _ _ (up_iff.2 hb) ?_
          clear hK K
          try clear hn
          refine wpS_nil ?_
          simp only [List.drop_succ_cons, List.drop_zero]
          have hb2 := HBV.out.trans (hb.mono HBV.out.size)
          clear cR cX cY lR lX lY HBV hb
          have e1 := eq4_same (wd0 k) (wd1 k) (wd2 k) (wd3 k)
          have e2 := eq4_same (wd0 1) (wd1 1) (wd2 1) (wd3 1)
          go_wp2_with fail
          refine (Of_any k _ hk).mono ?_
          rintro e wg ⟨rfl, hn⟩
          replace hb2 := hb2.trans (hn.mono hb2.size)
          clear hn
          go_wp2_with fail
          refine (Of_any 1 _ in64_1).mono ?_
          rintro e wh ⟨rfl, hn⟩
          replace hb2 := hb2.trans (hn.mono hb2.size)
          clear hn
          go_wp2_with fail
          refine (awake_any _).mono ?_
          rintro e wi ⟨rfl, hn⟩
          replace hb2 := hb2.trans (hn.mono hb2.size)
          clear hn e1 e2
          go_wp2
          go_ret
          exact ⟨rfl, hb2⟩
        · have hok : ok = false := by have := HOK.out; simpa using this
          subst hok
          obtain ⟨z1, z2⟩ := H0.out rfl
          subst z1
          subst z2
          have cR := RVar.c kr
          have e4 : eq4 (wd0 0) (wd1 0) (wd2 0) (wd3 0) 0 0 0 0 = true := by decide
          clear kX kY kr kL
          go_wp2_with fail
          refine (awake_any _).mono ?_
          rintro e wi ⟨rfl, hn⟩
          replace hbV := hbV.trans (hn.mono hbV.size)
          clear hn cR e4
          go_wp2
          go_ret
          exact ⟨rfl, hbV⟩
      · have hok : ok = false := by have := HOK.out; simpa using this
        subst hok
        obtain ⟨z1, z2⟩ := H0.out rfl
        subst z1
        subst z2
        have cR := RVar.c kr
        have e4 : eq4 (wd0 0) (wd1 0) (wd2 0) (wd3 0) 0 0 0 0 = true := by decide
        clear kX kY kL kr
        go_wp2_with fail
        refine (awake_any _).mono ?_
        rintro e wi ⟨rfl, hn⟩
        replace hbV := hbV.trans (hn.mono hbV.size)
        clear hn cR e4
        go_wp2
        go_ret
        exact ⟨rfl, hbV⟩
  · have hok : ok = false := by have := HOK.out; simpa using this
    subst hok
    obtain ⟨z1, z2⟩ := H0.out rfl
    subst z1
    subst z2
    have cR := RVar.c kr
    have e4 : eq4 (wd0 0) (wd1 0) (wd2 0) (wd3 0) 0 0 0 0 = true := by decide
    clear kX kY kL kr
    go_wp2_with fail
    refine (awake_any _).mono ?_
    rintro e wi ⟨rfl, hn⟩
    replace hbV := hbV.trans (hn.mono hbV.size)
    clear hn cR e4
    go_wp2
    go_ret
    exact ⟨rfl, hbV⟩

theorem cmp_least {x : Int} (ix : InI x) : (cmpI x (-b255) == 0) = !okI (-x) := by
  obtain ⟨h1, h2⟩ := ix
  rcases Int.lt_or_eq_of_le h1 with h | h
  · rw [cmpI_gt h]
    have : okI (-x) = true := by unfold okI InI; exact decide_eq_true (by unfold b255 at *; omega)
    rw [this]; rfl
  · rw [← h, cmpI_eq]; decide

theorem Makes_any (x y k : Int) (w : World) (ix : InI x) (iy : InI y) (hk : In64 k) :
    Calls Try.prog 4 #[wI x, wI y, .int .i64 k] w fun e w' => e = .returned (.bool true) ∧ Below w.heap.size w w' := by
  have sx := sg_id ix
  have sy := sg_id iy
  rcases Int.lt_trichotomy y 0 with h | h | h
  · refine Makes_go x y k w hk (-1) true false (!okI (-x)) (!okI (-y)) (okI (-x) && okI (-y)) _ _ sx sy (Int.sign_eq_neg_one_of_neg h) rfl rfl (cmp_least ix) (cmp_least iy) ?_ (fun w => New_neg x y w ix iy h _ _ rfl rfl) ?_ ?_
    · cases okI (-x) <;> cases okI (-y) <;> rfl
    · intro e; rw [e]; exact ⟨rfl, rfl⟩
    · intro e
      rw [e]
      rw [Bool.and_eq_true] at e
      have i1 : InI (-x) := of_decide_eq_true e.1
      have i2 : InI (-y) := of_decide_eq_true e.2
      exact ⟨sg_id i1, sg_id i2, i2, show 0 < -y by omega, rfl, rfl⟩
  · refine Makes_go x y k w hk 0 false true _ _ false _ _ sx sy (by rw [h]; rfl) rfl rfl rfl rfl rfl (fun w => New_pos x y w iy 0 (by rw [h]; rfl) (.inl rfl)) (fun _ => ⟨rfl, rfl⟩) (fun e => by cases e)
  · refine Makes_go x y k w hk 1 false false _ _ true _ _ sx sy (Int.sign_eq_one_of_pos h) rfl rfl rfl rfl rfl (fun w => New_pos x y w iy 1 (Int.sign_eq_one_of_pos h) (.inr rfl)) (fun e => by cases e) (fun _ => ⟨sx, sy, iy, h, rfl, rfl⟩)
end Go.Proofs.Ytgddpkopbiendaa
