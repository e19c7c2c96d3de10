/- The walk of gromaref03's Circle. Conditions: none. -/
import Derived.Test.YtgddpkopbiendaaPntK
namespace Go.Proofs.Ytgddpkopbiendaa
open Go.RowKit

theorem kR_is (x y : Int) (r : Bool) (h : rp x y = r) (w : World) : Calls Try.prog 44 #[pI x y] w fun e w' => e = .returned (.bool r) ∧ Below w.heap.size w w' := h ▸ rRight_any x y w
theorem kWay_is (ax ay bx b_y cx cy r : Int) (h : way ax ay bx b_y cx cy = r) (w : World) :
    Calls Try.prog 38 #[pI ax ay, pI bx b_y, pI cx cy] w fun e w' => e = .returned (.int .i64 r) ∧ Below w.heap.size w w' := h ▸ Way_any ax ay bx b_y cx cy w
theorem Blk.put6 {w : World} {b : Nat} {c0 c1 c2 c3 c4 c5 : Value} {t : TypeId} (h : Blk w b #[c0, c1, c2, c3, c4, c5] t) (v0 v1 v2 v3 v4 v5 : Value) :
    Blk ((((((w.setCell ⟨b, 0, none⟩ v0).setCell ⟨b, 1, none⟩ v1).setCell ⟨b, 2, none⟩ v2).setCell ⟨b, 3, none⟩ v3).setCell ⟨b, 4, none⟩ v4).setCell ⟨b, 5, none⟩ v5) b #[v0, v1, v2, v3, v4, v5] t :=
  (((((h.put 0 v0).put 1 v1).put 2 v2).put 3 v3).put 4 v4).put 5 v5
theorem sets6_below {B b : Nat} {W w : World} (h : Below B W w) (hB : B ≤ b) (v0 v1 v2 v3 v4 v5 : Value) :
    Below B W ((((((w.setCell ⟨b, 0, none⟩ v0).setCell ⟨b, 1, none⟩ v1).setCell ⟨b, 2, none⟩ v2).setCell ⟨b, 3, none⟩ v3).setCell ⟨b, 4, none⟩ v4).setCell ⟨b, 5, none⟩ v5) :=
  (((((h.setCell hB v0).setCell hB v1).setCell hB v2).setCell hB v3).setCell hB v4).setCell hB v5
theorem k_put2 {w : World} {b : Nat} {p q : Value} {t : TypeId} (h : Blk w b #[p, q] t) (u v : Value) : Blk ((w.setCell ⟨b, 0, none⟩ u).setCell ⟨b, 1, none⟩ v) b #[u, v] t := (h.put 0 u).put 1 v
theorem k_sett {w : World} {b b' : Nat} {c : Array Value} {t : TypeId} (h : Blk w b c t) (hne : b ≠ b') (u v : Value) : Blk ((w.setCell ⟨b', 0, none⟩ u).setCell ⟨b', 1, none⟩ v) b c t := (h.set hne _ _ _).set hne _ _ _
theorem co64 {x : Int} (h : Co x) : In64 x := by unfold Co at h; unfold In64; omega
set_option maxRecDepth 100000 in
set_option maxHeartbeats 8000000 in
theorem rCirc_go (ax ay bx b_y cx cy px py w t0 t1 t2 t3 f0 f1 f2 f3 q0 q1 q2 q3 s0 s1 s2 s3 z r : Int) (hg : rp px py = true) (hw : way ax ay bx b_y cx cy = w) (ht : (w == 0) = false)
    (A1 : Co ax) (A2 : Co ay) (B1 : Co bx) (B2 : Co b_y) (C1 : Co cx) (C2 : Co cy) (P1 : Co px) (P2 : Co py)
    (hf0 : lft ax ay = f0) (hf1 : lft bx b_y = f1) (hf2 : lft cx cy = f2) (hf3 : lft px py = f3) (ht0 : trn bx b_y cx cy px py = t0) (ht1 : trn ax ay cx cy px py = t1) (ht2 : trn ax ay bx b_y px py = t2) (ht3 : trn ax ay bx b_y cx cy = t3)
    (hq0 : f0 * t0 = q0) (hq1 : f1 * t1 = q1) (hq2 : f2 * t2 = q2) (hq3 : f3 * t3 = q3) (hs0 : 0 + q0 = s0) (hs1 : s0 + -q1 = s1) (hs2 : s1 + q2 = s2) (hs3 : s2 + -q3 = s3) (hz : s3.sign = z) (hr : wrap64 (z * w) = r) (v : World) :
    Calls Try.prog 48 #[pI ax ay, pI bx b_y, pI cx cy, pI px py] v fun e w' => e = .returned (.int .i64 r) ∧ Below v.heap.size v w' := by
  have HG := Lib.hid hg
  have HW := Lib.hid hw
  have HF0 := Lib.hid hf0
  have HF1 := Lib.hid hf1
  have HF2 := Lib.hid hf2
  have HF3 := Lib.hid hf3
  have HT0 := Lib.hid ht0
  have HT1 := Lib.hid ht1
  have HT2 := Lib.hid ht2
  have HT3 := Lib.hid ht3
  have HQ0 := Lib.hid hq0
  have HQ1 := Lib.hid hq1
  have HQ2 := Lib.hid hq2
  have HQ3 := Lib.hid hq3
  have HS0 := Lib.hid hs0
  have HS1 := Lib.hid hs1
  have HS2 := Lib.hid hs2
  have HS3 := Lib.hid hs3
  have HZ := Lib.hid hz
  have HR := Lib.hid hr
  have KA1 := Lib.hid A1
  have KA2 := Lib.hid A2
  have KB1 := Lib.hid B1
  have KB2 := Lib.hid B2
  have KC1 := Lib.hid C1
  have KC2 := Lib.hid C2
  have KP1 := Lib.hid P1
  have KP2 := Lib.hid P2
  clear hg hw hf0 hf1 hf2 hf3 ht0 ht1 ht2 ht3 hq0 hq1 hq2 hq3 hs0 hs1 hs2 hs3 hz hr A1 A2 B1 B2 C1 C2 P1 P2
  go_enter Try.func48, Try.ntmps48
  go_wp2_with fail
  first | refine calls_w ?_ | refine name_world ?_
  intro W hW
  have ka : QVar W (v.heap.size) ax ay := by rw [hW]; exact (Blk.new v _ _) |>.alloc _ |>.alloc _ |>.alloc _
  have kb : QVar W (v.heap.size + 1) bx b_y := by rw [hW]; exact (Blk.new1 v _ _ _) |>.alloc _ |>.alloc _
  have kc : QVar W (v.heap.size + 1 + 1) cx cy := by rw [hW]; exact (Blk.new2 v _ _ _ _) |>.alloc _
  have kd : QVar W (v.heap.size + 1 + 1 + 1) px py := by rw [hW]; exact (Blk.new3 v _ _ _ _ _)
  have hb0 : Below v.heap.size v W := by rw [hW]; exact (below_a3 _ _ _ _).alloc (by simp; omega) _
  clear hW
  refine (kR_is px py true HG.out _).mono ?_
  rintro e u1 ⟨rfl, hn⟩
  replace ka : QVar u1 _ _ _ := ka.of hn
  replace kb : QVar u1 _ _ _ := kb.of hn
  replace kc : QVar u1 _ _ _ := kc.of hn
  replace kd : QVar u1 _ _ _ := kd.of hn
  replace hb0 := hb0.trans (hn.mono hb0.size)
  clear hn 
  have ca := QVar.c ka
  have la := ka.lt
  have cb := QVar.c kb
  have lb := kb.lt
  have cc := QVar.c kc
  have lc := kc.lt
  have cd := QVar.c kd
  have ld := kd.lt
  go_wp2_with fail
  clear ca la cb lb cc lc cd ld
  refine (kWay_is ax ay bx b_y cx cy w HW.out _).mono ?_
  rintro e u2 ⟨rfl, hn⟩
  replace ka : QVar u2 _ _ _ := ka.of hn
  replace kb : QVar u2 _ _ _ := kb.of hn
  replace kc : QVar u2 _ _ _ := kc.of hn
  replace kd : QVar u2 _ _ _ := kd.of hn
  replace hb0 := hb0.trans (hn.mono hb0.size)
  clear hn 
  have ca := QVar.c ka
  have la := ka.lt
  have cb := QVar.c kb
  have lb := kb.lt
  have cc := QVar.c kc
  have lc := kc.lt
  have cd := QVar.c kd
  have ld := kd.lt
  go_wp2_with fail
  clear ca la cb lb cc lc cd ld
  have HLT0 := Lib.hid kd.lt
  refine name_world ?_
  intro W2 hW2
  have kl : Blk W2 u2.heap.size #[.int .i64 ax, .int .i64 ay, .int .i64 bx, .int .i64 b_y, .int .i64 cx, .int .i64 cy, .int .i64 px, .int .i64 py] 107 := by rw [hW2]; exact (Blk.new _ _ _).alloc _
  have kz : Blk W2 (u2.heap.size + 1) #[.bool false, .slice none 0 0] 33 := by rw [hW2]; exact Blk.new1 _ _ _ _
  have hv : Below u2.heap.size u2 W2 := by rw [hW2]; exact below_a2 _ _ _
  replace ka : QVar W2 _ _ _ := ka.of hv
  replace kb : QVar W2 _ _ _ := kb.of hv
  replace kc : QVar W2 _ _ _ := kc.of hv
  replace kd : QVar W2 _ _ _ := kd.of hv
  replace hb0 := hb0.trans (hv.mono hb0.size)
  have HS := Lib.hid (Big.zero W2 30)
  clear hv hW2
  refine wp_loop_rounds 5 ?_
  have HLT := Lib.hid (show v.heap.size + 1 + 1 + 1 < u2.heap.size from HLT0.out)
  clear HLT0
  rw [rounds_succ]
  have cl0 := kl.cell 0
  have cl1 := kl.cell 1
  have cl2 := kl.cell 2
  have cl3 := kl.cell 3
  have cl4 := kl.cell 4
  have cl5 := kl.cell 5
  have cl6 := kl.cell 6
  have cl7 := kl.cell 7
  have ll := kl.lt
  simp only [List.getElem?_toArray, List.getElem?_cons_zero, List.getElem?_cons_succ] at cl0 cl1 cl2 cl3 cl4 cl5 cl6 cl7
  go_wp2_with fail
  clear cl0 cl1 cl2 cl3 cl4 cl5 cl6 cl7 ll
  refine name_world ?_
  intro X0 hX0
  have ko : Blk X0 W2.heap.size #[.int .i64 0, .int .i64 0, .int .i64 0, .int .i64 0, .int .i64 0, .int .i64 0] 108 := by rw [hX0]; exact Blk.new _ _ _
  have hv : Below W2.heap.size W2 X0 := by rw [hX0]; exact below_a1 _ _
  have hlo : u2.heap.size ≠ W2.heap.size := by have := kl.lt; omega
  have kx := kl.of hv
  clear hX0
  have cl0 := kx.cell 0
  have cl1 := kx.cell 1
  have cl2 := kx.cell 2
  have cl3 := kx.cell 3
  have cl4 := kx.cell 4
  have cl5 := kx.cell 5
  have cl6 := kx.cell 6
  have cl7 := kx.cell 7
  have ll := kx.lt
  simp only [List.getElem?_toArray, List.getElem?_cons_zero, List.getElem?_cons_succ] at cl0 cl1 cl2 cl3 cl4 cl5 cl6 cl7
  have co0 := ko.cell 0
  have fo0 := ko.free 0
  have co1 := ko.cell 1
  have fo1 := ko.free 1
  have co2 := ko.cell 2
  have fo2 := ko.free 2
  have co3 := ko.cell 3
  have fo3 := ko.free 3
  have co4 := ko.cell 4
  have fo4 := ko.free 4
  have co5 := ko.cell 5
  have fo5 := ko.free 5
  have lo := ko.lt
  simp only [List.getElem?_toArray, List.getElem?_cons_zero, List.getElem?_cons_succ] at co0 co1 co2 co3 co4 co5
  refine wp_loop_rounds 5 ?_
  iterate 5
    rw [rounds_succ]
    go_wp2_with fail
  clear cl0 cl1 cl2 cl3 cl4 cl5 cl6 cl7 ll
  clear co0 fo0 co1 fo1 co2 fo2 co3 fo3 co4 fo4 co5 fo5 lo
  refine name_world ?_
  intro Y0 hY0
  replace ko : Blk Y0 W2.heap.size #[.int .i64 bx, .int .i64 b_y, .int .i64 cx, .int .i64 cy, .int .i64 px, .int .i64 py] 108 := by rw [hY0]; exact ko.put6 _ _ _ _ _ _
  replace hv : Below W2.heap.size W2 Y0 := by rw [hY0]; exact sets6_below hv (Nat.le_refl _) _ _ _ _ _ _
  clear hY0 hlo kx
  replace ka : QVar Y0 _ _ _ := ka.of hv
  replace kb : QVar Y0 _ _ _ := kb.of hv
  replace kc : QVar Y0 _ _ _ := kc.of hv
  replace kd : QVar Y0 _ _ _ := kd.of hv
  replace kl := kl.of hv
  replace kz := kz.of hv
  replace HS := Lib.hid (HS.out.of hv)
  replace hb0 := hb0.trans (hv.mono hb0.size)
  clear hv
  have cl0 := kl.cell 0
  have cl1 := kl.cell 1
  have cl2 := kl.cell 2
  have cl3 := kl.cell 3
  have cl4 := kl.cell 4
  have cl5 := kl.cell 5
  have cl6 := kl.cell 6
  have cl7 := kl.cell 7
  have ll := kl.lt
  simp only [List.getElem?_toArray, List.getElem?_cons_zero, List.getElem?_cons_succ] at cl0 cl1 cl2 cl3 cl4 cl5 cl6 cl7
  have co0 := ko.cell 0
  have co1 := ko.cell 1
  have co2 := ko.cell 2
  have co3 := ko.cell 3
  have co4 := ko.cell 4
  have co5 := ko.cell 5
  have lo := ko.lt
  simp only [List.getElem?_toArray, List.getElem?_cons_zero, List.getElem?_cons_succ] at co0 co1 co2 co3 co4 co5
  have Ha := Lib.hid ka
  clear ka
  have Hb := Lib.hid kb
  clear kb
  have Hc := Lib.hid kc
  clear kc
  have Hd := Lib.hid kd
  clear kd
  have HKL := Lib.hid kl
  have HKZ := Lib.hid kz
  clear kl kz ko
  refine wp_region_float1 13 12 [(true, 0), (true, 1), (true, 2), (true, 4), (true, 5), (true, 6), (true, 7), (true, 8), (true, 9), (false, 3), (false, 10), (false, 11)] (by kernel_rfl) (by kernel_rfl) (fun _ _ d _ _ => by cases d <;> exact Iff.rfl) rfl rfl rfl allocBg ?_
  have hb : Below Y0.heap.size Y0 Y0.drew := (Below.refl _ _).drew
  iterate 9
    refine wpF_take rfl rfl ?_
    go_big_quiet_step (rfl)
    refine wpQuiet_nil ?_
  refine wpF_do rfl ?_
  intro w1 hg K hK
  replace hb := hb.trans (hg.mono hb.size)
  try replace HM := Lib.hid (HM.out.of hg) ;; try replace HN := Lib.hid (HN.out.of hg)
  clear hg
  go_wp2_with ((first | (go_at_call 87; (with_reducible refine (lift_any ax ay _ (co64 KA1.out) (co64 KA2.out)).mono ?_); rintro e w4 ⟨vm, rfl, hbm, hn⟩; rw [HF0.out] at hbm; have HM := Lib.hid hbm; have hvm := hbm.shape; clear hbm; obtain ⟨n4, a4, q4, e4, rfl⟩ := hvm) | (go_at_call 49; (with_reducible refine (rTurn_any bx b_y cx cy px py KB1.out KB2.out KC1.out KC2.out KP1.out KP2.out _).mono ?_); rintro e w5 ⟨vm, rfl, hbm, hn⟩; rw [HT0.out] at hbm; have HN := Lib.hid hbm; have hvm := hbm.shape; replace HM := Lib.hid (HM.out.of hn); clear hbm; obtain ⟨n5, a5, q5, e5, rfl⟩ := hvm) | (go_at_call 21; refine (bigMul_any _ _ f0 t0 11 11 _ HM.out HN.out (by decide)).mono ?_; rintro e w6 ⟨vm, rfl, hbm, hn⟩; rw [HQ0.out] at hbm; have HP := Lib.hid hbm; have hvm := hbm.shape; clear hbm HM HN; obtain ⟨p0, pa0, pl0, pc0, rfl⟩ := hvm)))
  refine hK.out _ _ hn ?_
  replace hb := hb.trans (hn.mono hb.size)
  clear hK K
  clear hn
  refine wpF_do rfl ?_
  intro w1 hg K hK
  replace hb := hb.trans (hg.mono hb.size)
  try replace HM := Lib.hid (HM.out.of hg) ;; try replace HN := Lib.hid (HN.out.of hg)
  clear hg
  go_wp2_with ((first | (go_at_call 87; (with_reducible refine (lift_any ax ay _ (co64 KA1.out) (co64 KA2.out)).mono ?_); rintro e w4 ⟨vm, rfl, hbm, hn⟩; rw [HF0.out] at hbm; have HM := Lib.hid hbm; have hvm := hbm.shape; clear hbm; obtain ⟨n4, a4, q4, e4, rfl⟩ := hvm) | (go_at_call 49; (with_reducible refine (rTurn_any bx b_y cx cy px py KB1.out KB2.out KC1.out KC2.out KP1.out KP2.out _).mono ?_); rintro e w5 ⟨vm, rfl, hbm, hn⟩; rw [HT0.out] at hbm; have HN := Lib.hid hbm; have hvm := hbm.shape; replace HM := Lib.hid (HM.out.of hn); clear hbm; obtain ⟨n5, a5, q5, e5, rfl⟩ := hvm) | (go_at_call 21; refine (bigMul_any _ _ f0 t0 11 11 _ HM.out HN.out (by decide)).mono ?_; rintro e w6 ⟨vm, rfl, hbm, hn⟩; rw [HQ0.out] at hbm; have HP := Lib.hid hbm; have hvm := hbm.shape; clear hbm HM HN; obtain ⟨p0, pa0, pl0, pc0, rfl⟩ := hvm)))
  refine hK.out _ _ hn ?_
  replace hb := hb.trans (hn.mono hb.size)
  clear hK K
  clear hn
  refine wpF_do rfl ?_
  intro w1 hg K hK
  replace hb := hb.trans (hg.mono hb.size)
  try replace HM := Lib.hid (HM.out.of hg) ;; try replace HN := Lib.hid (HN.out.of hg)
  clear hg
  go_wp2_with ((first | (go_at_call 87; (with_reducible refine (lift_any ax ay _ (co64 KA1.out) (co64 KA2.out)).mono ?_); rintro e w4 ⟨vm, rfl, hbm, hn⟩; rw [HF0.out] at hbm; have HM := Lib.hid hbm; have hvm := hbm.shape; clear hbm; obtain ⟨n4, a4, q4, e4, rfl⟩ := hvm) | (go_at_call 49; (with_reducible refine (rTurn_any bx b_y cx cy px py KB1.out KB2.out KC1.out KC2.out KP1.out KP2.out _).mono ?_); rintro e w5 ⟨vm, rfl, hbm, hn⟩; rw [HT0.out] at hbm; have HN := Lib.hid hbm; have hvm := hbm.shape; replace HM := Lib.hid (HM.out.of hn); clear hbm; obtain ⟨n5, a5, q5, e5, rfl⟩ := hvm) | (go_at_call 21; refine (bigMul_any _ _ f0 t0 11 11 _ HM.out HN.out (by decide)).mono ?_; rintro e w6 ⟨vm, rfl, hbm, hn⟩; rw [HQ0.out] at hbm; have HP := Lib.hid hbm; have hvm := hbm.shape; clear hbm HM HN; obtain ⟨p0, pa0, pl0, pc0, rfl⟩ := hvm)))
  refine hK.out _ _ hn ?_
  replace hb := hb.trans (hn.mono hb.size)
  clear hK K
  clear hn
  refine wpF_nil ?_
  clear hb
  intro w1 hg hb b1 lb1 nb1
  replace HP := Lib.hid (HP.out.of hg)
  clear hg
  simp only [Act.put, ptrTo, List.setIfInBounds_toArray, List.set_cons_succ, List.set_cons_zero]
  simp only [List.drop_succ_cons, List.drop_zero]
  have kp : Blk w1 b1 #[.bool false, .slice none 0 0] 33 := nb1
  have kz1 := HKZ.out.of hb
  have hzb : u2.heap.size + 1 ≠ b1 := by have := HKZ.out.lt; omega
  clear cl0 cl1 cl2 cl3 cl4 cl5 cl6 cl7 ll
  clear co0 co1 co2 co3 co4 co5 lo
  have cp0 := kp.cell 0
  have fp0 := kp.free 0
  have cp1 := kp.cell 1
  have fp1 := kp.free 1
  have lp := kp.lt
  simp only [List.getElem?_toArray, List.getElem?_cons_zero, List.getElem?_cons_succ] at cp0 cp1
  have cz0 := kz1.cell 0
  have cz1 := kz1.cell 1
  have lz := kz1.lt
  simp only [List.getElem?_toArray, List.getElem?_cons_zero, List.getElem?_cons_succ] at cz0 cz1
  go_wp2_with fail
  refine calls_w ?_
  intro V0 hV0
  replace kp : Blk V0 b1 #[.bool p0, .slice pa0 pl0 pc0] 33 := by rw [hV0]; exact k_put2 kp _ _
  replace HP := Lib.hid (show Big V0 (.agg #[.bool p0, .slice pa0 pl0 pc0]) q0 22 by rw [hV0]; exact HP.out.set2 cp0 _ _)
  replace HS := Lib.hid (show Big V0 (.agg #[.bool false, .slice none 0 0]) 0 30 by rw [hV0]; exact (HS.out.of hb).set2 cp0 _ _)
  replace hb : Below Y0.heap.size Y0 V0 := by rw [hV0]; exact set2_below hb lb1 _ _
  clear hV0 kz1 nb1
  clear cp0 fp0 cp1 fp1 lp
  clear cz0 cz1 lz
  clear kp hzb
  refine (bigAdd_any _ _ 0 q0 30 _ HS.out (HP.out.mono (by decide)) (by decide)).mono ?_
  rintro e a0 ⟨vm, rfl, hbm, hn⟩
  rw [HS0.out] at hbm
  replace HS := Lib.hid hbm
  replace hb := hb.trans (hn.mono hb.size)
  have hvm := hbm.shape
  clear hn hbm HP lb1
  obtain ⟨m0, ma0, ml0, mc0, rfl⟩ := hvm
  have kz := HKZ.out.of hb
  have kl := HKL.out.of hb
  clear HKL HKZ
  have ka : QVar a0 _ _ _ := Ha.out.of hb
  clear Ha
  have kb : QVar a0 _ _ _ := Hb.out.of hb
  clear Hb
  have kc : QVar a0 _ _ _ := Hc.out.of hb
  clear Hc
  have kd : QVar a0 _ _ _ := Hd.out.of hb
  clear Hd
  replace hb0 := hb0.trans (hb.mono hb0.size)
  clear hb
  have cz0 := kz.cell 0
  have fz0 := kz.free 0
  have cz1 := kz.cell 1
  have fz1 := kz.free 1
  have lz := kz.lt
  simp only [List.getElem?_toArray, List.getElem?_cons_zero, List.getElem?_cons_succ] at cz0 cz1
  go_wp2_with fail
  rw [rounds_succ]
  refine name_world ?_
  intro R0 hR0
  replace kz : Blk R0 (u2.heap.size + 1) #[.bool m0, .slice ma0 ml0 mc0] 33 := by rw [hR0]; exact k_put2 kz _ _
  replace HS := Lib.hid (show Big R0 (.agg #[.bool m0, .slice ma0 ml0 mc0]) s0 (30 + 1) by rw [hR0]; exact HS.out.set2 cz0 _ _)
  have hlt := HLT.out
  replace kl := show Blk R0 u2.heap.size _ _ by rw [hR0]; exact k_sett kl (by omega) _ _
  replace ka : QVar R0 (v.heap.size) ax ay := by rw [hR0]; exact k_sett ka (by omega) _ _
  replace kb : QVar R0 (v.heap.size + 1) bx b_y := by rw [hR0]; exact k_sett kb (by omega) _ _
  replace kc : QVar R0 (v.heap.size + 1 + 1) cx cy := by rw [hR0]; exact k_sett kc (by omega) _ _
  replace kd : QVar R0 (v.heap.size + 1 + 1 + 1) px py := by rw [hR0]; exact k_sett kd (by omega) _ _
  replace hb0 : Below v.heap.size v R0 := by rw [hR0]; exact set2_below hb0 (by omega) _ _
  clear hR0 hlt
  clear cz0 fz0 cz1 fz1 lz
  have cl0 := kl.cell 0
  have cl1 := kl.cell 1
  have cl2 := kl.cell 2
  have cl3 := kl.cell 3
  have cl4 := kl.cell 4
  have cl5 := kl.cell 5
  have cl6 := kl.cell 6
  have cl7 := kl.cell 7
  have ll := kl.lt
  simp only [List.getElem?_toArray, List.getElem?_cons_zero, List.getElem?_cons_succ] at cl0 cl1 cl2 cl3 cl4 cl5 cl6 cl7
  go_wp2_with fail
  clear cl0 cl1 cl2 cl3 cl4 cl5 cl6 cl7 ll
  refine name_world ?_
  intro X1 hX1
  have ko : Blk X1 R0.heap.size #[.int .i64 0, .int .i64 0, .int .i64 0, .int .i64 0, .int .i64 0, .int .i64 0] 108 := by rw [hX1]; exact Blk.new _ _ _
  have hv : Below R0.heap.size R0 X1 := by rw [hX1]; exact below_a1 _ _
  have hlo : u2.heap.size ≠ R0.heap.size := by have := kl.lt; omega
  have kx := kl.of hv
  clear hX1
  have cl0 := kx.cell 0
  have cl1 := kx.cell 1
  have cl2 := kx.cell 2
  have cl3 := kx.cell 3
  have cl4 := kx.cell 4
  have cl5 := kx.cell 5
  have cl6 := kx.cell 6
  have cl7 := kx.cell 7
  have ll := kx.lt
  simp only [List.getElem?_toArray, List.getElem?_cons_zero, List.getElem?_cons_succ] at cl0 cl1 cl2 cl3 cl4 cl5 cl6 cl7
  have co0 := ko.cell 0
  have fo0 := ko.free 0
  have co1 := ko.cell 1
  have fo1 := ko.free 1
  have co2 := ko.cell 2
  have fo2 := ko.free 2
  have co3 := ko.cell 3
  have fo3 := ko.free 3
  have co4 := ko.cell 4
  have fo4 := ko.free 4
  have co5 := ko.cell 5
  have fo5 := ko.free 5
  have lo := ko.lt
  simp only [List.getElem?_toArray, List.getElem?_cons_zero, List.getElem?_cons_succ] at co0 co1 co2 co3 co4 co5
  refine wp_loop_rounds 5 ?_
  iterate 5
    rw [rounds_succ]
    go_wp2_with fail
  clear cl0 cl1 cl2 cl3 cl4 cl5 cl6 cl7 ll
  clear co0 fo0 co1 fo1 co2 fo2 co3 fo3 co4 fo4 co5 fo5 lo
  refine name_world ?_
  intro Y1 hY1
  replace ko : Blk Y1 R0.heap.size #[.int .i64 ax, .int .i64 ay, .int .i64 cx, .int .i64 cy, .int .i64 px, .int .i64 py] 108 := by rw [hY1]; exact ko.put6 _ _ _ _ _ _
  replace hv : Below R0.heap.size R0 Y1 := by rw [hY1]; exact sets6_below hv (Nat.le_refl _) _ _ _ _ _ _
  clear hY1 hlo kx
  replace ka : QVar Y1 _ _ _ := ka.of hv
  replace kb : QVar Y1 _ _ _ := kb.of hv
  replace kc : QVar Y1 _ _ _ := kc.of hv
  replace kd : QVar Y1 _ _ _ := kd.of hv
  replace kl := kl.of hv
  replace kz := kz.of hv
  replace HS := Lib.hid (HS.out.of hv)
  replace hb0 := hb0.trans (hv.mono hb0.size)
  clear hv
  have cl0 := kl.cell 0
  have cl1 := kl.cell 1
  have cl2 := kl.cell 2
  have cl3 := kl.cell 3
  have cl4 := kl.cell 4
  have cl5 := kl.cell 5
  have cl6 := kl.cell 6
  have cl7 := kl.cell 7
  have ll := kl.lt
  simp only [List.getElem?_toArray, List.getElem?_cons_zero, List.getElem?_cons_succ] at cl0 cl1 cl2 cl3 cl4 cl5 cl6 cl7
  have co0 := ko.cell 0
  have co1 := ko.cell 1
  have co2 := ko.cell 2
  have co3 := ko.cell 3
  have co4 := ko.cell 4
  have co5 := ko.cell 5
  have lo := ko.lt
  simp only [List.getElem?_toArray, List.getElem?_cons_zero, List.getElem?_cons_succ] at co0 co1 co2 co3 co4 co5
  have Ha := Lib.hid ka
  clear ka
  have Hb := Lib.hid kb
  clear kb
  have Hc := Lib.hid kc
  clear kc
  have Hd := Lib.hid kd
  clear kd
  have HKL := Lib.hid kl
  have HKZ := Lib.hid kz
  clear kl kz ko
  refine wp_region_float1 13 12 [(true, 0), (true, 1), (true, 2), (true, 4), (true, 5), (true, 6), (true, 7), (true, 8), (true, 9), (false, 3), (false, 10), (false, 11)] (by kernel_rfl) (by kernel_rfl) (fun _ _ d _ _ => by cases d <;> exact Iff.rfl) rfl rfl rfl allocBg ?_
  have hb : Below Y1.heap.size Y1 Y1.drew := (Below.refl _ _).drew
  iterate 9
    refine wpF_take rfl rfl ?_
    go_big_quiet_step (rfl)
    refine wpQuiet_nil ?_
  refine wpF_do rfl ?_
  intro w1 hg K hK
  replace hb := hb.trans (hg.mono hb.size)
  try replace HM := Lib.hid (HM.out.of hg) ;; try replace HN := Lib.hid (HN.out.of hg)
  clear hg
  go_wp2_with ((first | (go_at_call 87; (with_reducible refine (lift_any bx b_y _ (co64 KB1.out) (co64 KB2.out)).mono ?_); rintro e w4 ⟨vm, rfl, hbm, hn⟩; rw [HF1.out] at hbm; have HM := Lib.hid hbm; have hvm := hbm.shape; clear hbm; obtain ⟨n4, a4, q4, e4, rfl⟩ := hvm) | (go_at_call 49; (with_reducible refine (rTurn_any ax ay cx cy px py KA1.out KA2.out KC1.out KC2.out KP1.out KP2.out _).mono ?_); rintro e w5 ⟨vm, rfl, hbm, hn⟩; rw [HT1.out] at hbm; have HN := Lib.hid hbm; have hvm := hbm.shape; replace HM := Lib.hid (HM.out.of hn); clear hbm; obtain ⟨n5, a5, q5, e5, rfl⟩ := hvm) | (go_at_call 21; refine (bigMul_any _ _ f1 t1 11 11 _ HM.out HN.out (by decide)).mono ?_; rintro e w6 ⟨vm, rfl, hbm, hn⟩; rw [HQ1.out] at hbm; have HP := Lib.hid hbm; have hvm := hbm.shape; clear hbm HM HN; obtain ⟨p1, pa1, pl1, pc1, rfl⟩ := hvm)))
  refine hK.out _ _ hn ?_
  replace hb := hb.trans (hn.mono hb.size)
  clear hK K
  clear hn
  refine wpF_do rfl ?_
  intro w1 hg K hK
  replace hb := hb.trans (hg.mono hb.size)
  try replace HM := Lib.hid (HM.out.of hg) ;; try replace HN := Lib.hid (HN.out.of hg)
  clear hg
  go_wp2_with ((first | (go_at_call 87; (with_reducible refine (lift_any bx b_y _ (co64 KB1.out) (co64 KB2.out)).mono ?_); rintro e w4 ⟨vm, rfl, hbm, hn⟩; rw [HF1.out] at hbm; have HM := Lib.hid hbm; have hvm := hbm.shape; clear hbm; obtain ⟨n4, a4, q4, e4, rfl⟩ := hvm) | (go_at_call 49; (with_reducible refine (rTurn_any ax ay cx cy px py KA1.out KA2.out KC1.out KC2.out KP1.out KP2.out _).mono ?_); rintro e w5 ⟨vm, rfl, hbm, hn⟩; rw [HT1.out] at hbm; have HN := Lib.hid hbm; have hvm := hbm.shape; replace HM := Lib.hid (HM.out.of hn); clear hbm; obtain ⟨n5, a5, q5, e5, rfl⟩ := hvm) | (go_at_call 21; refine (bigMul_any _ _ f1 t1 11 11 _ HM.out HN.out (by decide)).mono ?_; rintro e w6 ⟨vm, rfl, hbm, hn⟩; rw [HQ1.out] at hbm; have HP := Lib.hid hbm; have hvm := hbm.shape; clear hbm HM HN; obtain ⟨p1, pa1, pl1, pc1, rfl⟩ := hvm)))
  refine hK.out _ _ hn ?_
  replace hb := hb.trans (hn.mono hb.size)
  clear hK K
  clear hn
  refine wpF_do rfl ?_
  intro w1 hg K hK
  replace hb := hb.trans (hg.mono hb.size)
  try replace HM := Lib.hid (HM.out.of hg) ;; try replace HN := Lib.hid (HN.out.of hg)
  clear hg
  go_wp2_with ((first | (go_at_call 87; (with_reducible refine (lift_any bx b_y _ (co64 KB1.out) (co64 KB2.out)).mono ?_); rintro e w4 ⟨vm, rfl, hbm, hn⟩; rw [HF1.out] at hbm; have HM := Lib.hid hbm; have hvm := hbm.shape; clear hbm; obtain ⟨n4, a4, q4, e4, rfl⟩ := hvm) | (go_at_call 49; (with_reducible refine (rTurn_any ax ay cx cy px py KA1.out KA2.out KC1.out KC2.out KP1.out KP2.out _).mono ?_); rintro e w5 ⟨vm, rfl, hbm, hn⟩; rw [HT1.out] at hbm; have HN := Lib.hid hbm; have hvm := hbm.shape; replace HM := Lib.hid (HM.out.of hn); clear hbm; obtain ⟨n5, a5, q5, e5, rfl⟩ := hvm) | (go_at_call 21; refine (bigMul_any _ _ f1 t1 11 11 _ HM.out HN.out (by decide)).mono ?_; rintro e w6 ⟨vm, rfl, hbm, hn⟩; rw [HQ1.out] at hbm; have HP := Lib.hid hbm; have hvm := hbm.shape; clear hbm HM HN; obtain ⟨p1, pa1, pl1, pc1, rfl⟩ := hvm)))
  refine hK.out _ _ hn ?_
  replace hb := hb.trans (hn.mono hb.size)
  clear hK K
  clear hn
  refine wpF_nil ?_
  clear hb
  intro w1 hg hb b1 lb1 nb1
  replace HP := Lib.hid (HP.out.of hg)
  clear hg
  simp only [Act.put, ptrTo, List.setIfInBounds_toArray, List.set_cons_succ, List.set_cons_zero]
  simp only [List.drop_succ_cons, List.drop_zero]
  have kp : Blk w1 b1 #[.bool false, .slice none 0 0] 33 := nb1
  have kz1 := HKZ.out.of hb
  have hzb : u2.heap.size + 1 ≠ b1 := by have := HKZ.out.lt; omega
  clear cl0 cl1 cl2 cl3 cl4 cl5 cl6 cl7 ll
  clear co0 co1 co2 co3 co4 co5 lo
  have cp0 := kp.cell 0
  have fp0 := kp.free 0
  have cp1 := kp.cell 1
  have fp1 := kp.free 1
  have lp := kp.lt
  simp only [List.getElem?_toArray, List.getElem?_cons_zero, List.getElem?_cons_succ] at cp0 cp1
  have cz0 := kz1.cell 0
  have cz1 := kz1.cell 1
  have lz := kz1.lt
  simp only [List.getElem?_toArray, List.getElem?_cons_zero, List.getElem?_cons_succ] at cz0 cz1
  go_wp2_with fail
  refine calls_w ?_
  intro V1 hV1
  replace kp : Blk V1 b1 #[.bool p1, .slice pa1 pl1 pc1] 33 := by rw [hV1]; exact k_put2 kp _ _
  replace HP := Lib.hid (show Big V1 (.agg #[.bool p1, .slice pa1 pl1 pc1]) q1 22 by rw [hV1]; exact HP.out.set2 cp0 _ _)
  replace HS := Lib.hid (show Big V1 (.agg #[.bool m0, .slice ma0 ml0 mc0]) s0 31 by rw [hV1]; exact (HS.out.of hb).set2 cp0 _ _)
  replace hb : Below Y1.heap.size Y1 V1 := by rw [hV1]; exact set2_below hb lb1 _ _
  clear hV1 kz1 nb1
  clear cp0 fp0 cp1 fp1 lp
  clear cz0 cz1 lz
  refine (Minus_any _ q1 22 _ HP.out).mono ?_
  rintro e z1 ⟨vm, rfl, hbm, hn⟩
  replace kp := kp.of hn
  replace HS := Lib.hid (HS.out.of hn)
  replace HP := Lib.hid hbm
  replace hb := hb.trans (hn.mono hb.size)
  have hvm := hbm.shape
  clear hn hbm
  obtain ⟨o1, oa1, ol1, oc1, rfl⟩ := hvm
  have kz1 := HKZ.out.of hb
  have cp0 := kp.cell 0
  have fp0 := kp.free 0
  have cp1 := kp.cell 1
  have fp1 := kp.free 1
  have lp := kp.lt
  simp only [List.getElem?_toArray, List.getElem?_cons_zero, List.getElem?_cons_succ] at cp0 cp1
  have cz0 := kz1.cell 0
  have cz1 := kz1.cell 1
  have lz := kz1.lt
  simp only [List.getElem?_toArray, List.getElem?_cons_zero, List.getElem?_cons_succ] at cz0 cz1
  go_wp2_with fail
  refine calls_w ?_
  intro Z1 hZ1
  replace HP := Lib.hid (show Big Z1 (.agg #[.bool o1, .slice oa1 ol1 oc1]) (-q1) 22 by rw [hZ1]; exact HP.out.set2 cp0 _ _)
  replace HS := Lib.hid (show Big Z1 (.agg #[.bool m0, .slice ma0 ml0 mc0]) s0 31 by rw [hZ1]; exact HS.out.set2 cp0 _ _)
  replace hb : Below Y1.heap.size Y1 Z1 := by rw [hZ1]; exact set2_below hb lb1 _ _
  clear hZ1 kz1
  clear cp0 fp0 cp1 fp1 lp
  clear cz0 cz1 lz
  clear kp hzb
  refine (bigAdd_any _ _ s0 (-q1) 31 _ HS.out (HP.out.mono (by decide)) (by decide)).mono ?_
  rintro e a1 ⟨vm, rfl, hbm, hn⟩
  rw [HS1.out] at hbm
  replace HS := Lib.hid hbm
  replace hb := hb.trans (hn.mono hb.size)
  have hvm := hbm.shape
  clear hn hbm HP lb1
  obtain ⟨m1, ma1, ml1, mc1, rfl⟩ := hvm
  have kz := HKZ.out.of hb
  have kl := HKL.out.of hb
  clear HKL HKZ
  have ka : QVar a1 _ _ _ := Ha.out.of hb
  clear Ha
  have kb : QVar a1 _ _ _ := Hb.out.of hb
  clear Hb
  have kc : QVar a1 _ _ _ := Hc.out.of hb
  clear Hc
  have kd : QVar a1 _ _ _ := Hd.out.of hb
  clear Hd
  replace hb0 := hb0.trans (hb.mono hb0.size)
  clear hb
  have cz0 := kz.cell 0
  have fz0 := kz.free 0
  have cz1 := kz.cell 1
  have fz1 := kz.free 1
  have lz := kz.lt
  simp only [List.getElem?_toArray, List.getElem?_cons_zero, List.getElem?_cons_succ] at cz0 cz1
  go_wp2_with fail
  rw [rounds_succ]
  refine name_world ?_
  intro R1 hR1
  replace kz : Blk R1 (u2.heap.size + 1) #[.bool m1, .slice ma1 ml1 mc1] 33 := by rw [hR1]; exact k_put2 kz _ _
  replace HS := Lib.hid (show Big R1 (.agg #[.bool m1, .slice ma1 ml1 mc1]) s1 (31 + 1) by rw [hR1]; exact HS.out.set2 cz0 _ _)
  have hlt := HLT.out
  replace kl := show Blk R1 u2.heap.size _ _ by rw [hR1]; exact k_sett kl (by omega) _ _
  replace ka : QVar R1 (v.heap.size) ax ay := by rw [hR1]; exact k_sett ka (by omega) _ _
  replace kb : QVar R1 (v.heap.size + 1) bx b_y := by rw [hR1]; exact k_sett kb (by omega) _ _
  replace kc : QVar R1 (v.heap.size + 1 + 1) cx cy := by rw [hR1]; exact k_sett kc (by omega) _ _
  replace kd : QVar R1 (v.heap.size + 1 + 1 + 1) px py := by rw [hR1]; exact k_sett kd (by omega) _ _
  replace hb0 : Below v.heap.size v R1 := by rw [hR1]; exact set2_below hb0 (by omega) _ _
  clear hR1 hlt
  clear cz0 fz0 cz1 fz1 lz
  have cl0 := kl.cell 0
  have cl1 := kl.cell 1
  have cl2 := kl.cell 2
  have cl3 := kl.cell 3
  have cl4 := kl.cell 4
  have cl5 := kl.cell 5
  have cl6 := kl.cell 6
  have cl7 := kl.cell 7
  have ll := kl.lt
  simp only [List.getElem?_toArray, List.getElem?_cons_zero, List.getElem?_cons_succ] at cl0 cl1 cl2 cl3 cl4 cl5 cl6 cl7
  go_wp2_with fail
  clear cl0 cl1 cl2 cl3 cl4 cl5 cl6 cl7 ll
  refine name_world ?_
  intro X2 hX2
  have ko : Blk X2 R1.heap.size #[.int .i64 0, .int .i64 0, .int .i64 0, .int .i64 0, .int .i64 0, .int .i64 0] 108 := by rw [hX2]; exact Blk.new _ _ _
  have hv : Below R1.heap.size R1 X2 := by rw [hX2]; exact below_a1 _ _
  have hlo : u2.heap.size ≠ R1.heap.size := by have := kl.lt; omega
  have kx := kl.of hv
  clear hX2
  have cl0 := kx.cell 0
  have cl1 := kx.cell 1
  have cl2 := kx.cell 2
  have cl3 := kx.cell 3
  have cl4 := kx.cell 4
  have cl5 := kx.cell 5
  have cl6 := kx.cell 6
  have cl7 := kx.cell 7
  have ll := kx.lt
  simp only [List.getElem?_toArray, List.getElem?_cons_zero, List.getElem?_cons_succ] at cl0 cl1 cl2 cl3 cl4 cl5 cl6 cl7
  have co0 := ko.cell 0
  have fo0 := ko.free 0
  have co1 := ko.cell 1
  have fo1 := ko.free 1
  have co2 := ko.cell 2
  have fo2 := ko.free 2
  have co3 := ko.cell 3
  have fo3 := ko.free 3
  have co4 := ko.cell 4
  have fo4 := ko.free 4
  have co5 := ko.cell 5
  have fo5 := ko.free 5
  have lo := ko.lt
  simp only [List.getElem?_toArray, List.getElem?_cons_zero, List.getElem?_cons_succ] at co0 co1 co2 co3 co4 co5
  refine wp_loop_rounds 5 ?_
  iterate 5
    rw [rounds_succ]
    go_wp2_with fail
  clear cl0 cl1 cl2 cl3 cl4 cl5 cl6 cl7 ll
  clear co0 fo0 co1 fo1 co2 fo2 co3 fo3 co4 fo4 co5 fo5 lo
  refine name_world ?_
  intro Y2 hY2
  replace ko : Blk Y2 R1.heap.size #[.int .i64 ax, .int .i64 ay, .int .i64 bx, .int .i64 b_y, .int .i64 px, .int .i64 py] 108 := by rw [hY2]; exact ko.put6 _ _ _ _ _ _
  replace hv : Below R1.heap.size R1 Y2 := by rw [hY2]; exact sets6_below hv (Nat.le_refl _) _ _ _ _ _ _
  clear hY2 hlo kx
  replace ka : QVar Y2 _ _ _ := ka.of hv
  replace kb : QVar Y2 _ _ _ := kb.of hv
  replace kc : QVar Y2 _ _ _ := kc.of hv
  replace kd : QVar Y2 _ _ _ := kd.of hv
  replace kl := kl.of hv
  replace kz := kz.of hv
  replace HS := Lib.hid (HS.out.of hv)
  replace hb0 := hb0.trans (hv.mono hb0.size)
  clear hv
  have cl0 := kl.cell 0
  have cl1 := kl.cell 1
  have cl2 := kl.cell 2
  have cl3 := kl.cell 3
  have cl4 := kl.cell 4
  have cl5 := kl.cell 5
  have cl6 := kl.cell 6
  have cl7 := kl.cell 7
  have ll := kl.lt
  simp only [List.getElem?_toArray, List.getElem?_cons_zero, List.getElem?_cons_succ] at cl0 cl1 cl2 cl3 cl4 cl5 cl6 cl7
  have co0 := ko.cell 0
  have co1 := ko.cell 1
  have co2 := ko.cell 2
  have co3 := ko.cell 3
  have co4 := ko.cell 4
  have co5 := ko.cell 5
  have lo := ko.lt
  simp only [List.getElem?_toArray, List.getElem?_cons_zero, List.getElem?_cons_succ] at co0 co1 co2 co3 co4 co5
  have Ha := Lib.hid ka
  clear ka
  have Hb := Lib.hid kb
  clear kb
  have Hc := Lib.hid kc
  clear kc
  have Hd := Lib.hid kd
  clear kd
  have HKL := Lib.hid kl
  have HKZ := Lib.hid kz
  clear kl kz ko
  refine wp_region_float1 13 12 [(true, 0), (true, 1), (true, 2), (true, 4), (true, 5), (true, 6), (true, 7), (true, 8), (true, 9), (false, 3), (false, 10), (false, 11)] (by kernel_rfl) (by kernel_rfl) (fun _ _ d _ _ => by cases d <;> exact Iff.rfl) rfl rfl rfl allocBg ?_
  have hb : Below Y2.heap.size Y2 Y2.drew := (Below.refl _ _).drew
  iterate 9
    refine wpF_take rfl rfl ?_
    go_big_quiet_step (rfl)
    refine wpQuiet_nil ?_
  refine wpF_do rfl ?_
  intro w1 hg K hK
  replace hb := hb.trans (hg.mono hb.size)
  try replace HM := Lib.hid (HM.out.of hg) ;; try replace HN := Lib.hid (HN.out.of hg)
  clear hg
  go_wp2_with ((first | (go_at_call 87; (with_reducible refine (lift_any cx cy _ (co64 KC1.out) (co64 KC2.out)).mono ?_); rintro e w4 ⟨vm, rfl, hbm, hn⟩; rw [HF2.out] at hbm; have HM := Lib.hid hbm; have hvm := hbm.shape; clear hbm; obtain ⟨n4, a4, q4, e4, rfl⟩ := hvm) | (go_at_call 49; (with_reducible refine (rTurn_any ax ay bx b_y px py KA1.out KA2.out KB1.out KB2.out KP1.out KP2.out _).mono ?_); rintro e w5 ⟨vm, rfl, hbm, hn⟩; rw [HT2.out] at hbm; have HN := Lib.hid hbm; have hvm := hbm.shape; replace HM := Lib.hid (HM.out.of hn); clear hbm; obtain ⟨n5, a5, q5, e5, rfl⟩ := hvm) | (go_at_call 21; refine (bigMul_any _ _ f2 t2 11 11 _ HM.out HN.out (by decide)).mono ?_; rintro e w6 ⟨vm, rfl, hbm, hn⟩; rw [HQ2.out] at hbm; have HP := Lib.hid hbm; have hvm := hbm.shape; clear hbm HM HN; obtain ⟨p2, pa2, pl2, pc2, rfl⟩ := hvm)))
  refine hK.out _ _ hn ?_
  replace hb := hb.trans (hn.mono hb.size)
  clear hK K
  clear hn
  refine wpF_do rfl ?_
  intro w1 hg K hK
  replace hb := hb.trans (hg.mono hb.size)
  try replace HM := Lib.hid (HM.out.of hg) ;; try replace HN := Lib.hid (HN.out.of hg)
  clear hg
  go_wp2_with ((first | (go_at_call 87; (with_reducible refine (lift_any cx cy _ (co64 KC1.out) (co64 KC2.out)).mono ?_); rintro e w4 ⟨vm, rfl, hbm, hn⟩; rw [HF2.out] at hbm; have HM := Lib.hid hbm; have hvm := hbm.shape; clear hbm; obtain ⟨n4, a4, q4, e4, rfl⟩ := hvm) | (go_at_call 49; (with_reducible refine (rTurn_any ax ay bx b_y px py KA1.out KA2.out KB1.out KB2.out KP1.out KP2.out _).mono ?_); rintro e w5 ⟨vm, rfl, hbm, hn⟩; rw [HT2.out] at hbm; have HN := Lib.hid hbm; have hvm := hbm.shape; replace HM := Lib.hid (HM.out.of hn); clear hbm; obtain ⟨n5, a5, q5, e5, rfl⟩ := hvm) | (go_at_call 21; refine (bigMul_any _ _ f2 t2 11 11 _ HM.out HN.out (by decide)).mono ?_; rintro e w6 ⟨vm, rfl, hbm, hn⟩; rw [HQ2.out] at hbm; have HP := Lib.hid hbm; have hvm := hbm.shape; clear hbm HM HN; obtain ⟨p2, pa2, pl2, pc2, rfl⟩ := hvm)))
  refine hK.out _ _ hn ?_
  replace hb := hb.trans (hn.mono hb.size)
  clear hK K
  clear hn
  refine wpF_do rfl ?_
  intro w1 hg K hK
  replace hb := hb.trans (hg.mono hb.size)
  try replace HM := Lib.hid (HM.out.of hg) ;; try replace HN := Lib.hid (HN.out.of hg)
  clear hg
  go_wp2_with ((first | (go_at_call 87; (with_reducible refine (lift_any cx cy _ (co64 KC1.out) (co64 KC2.out)).mono ?_); rintro e w4 ⟨vm, rfl, hbm, hn⟩; rw [HF2.out] at hbm; have HM := Lib.hid hbm; have hvm := hbm.shape; clear hbm; obtain ⟨n4, a4, q4, e4, rfl⟩ := hvm) | (go_at_call 49; (with_reducible refine (rTurn_any ax ay bx b_y px py KA1.out KA2.out KB1.out KB2.out KP1.out KP2.out _).mono ?_); rintro e w5 ⟨vm, rfl, hbm, hn⟩; rw [HT2.out] at hbm; have HN := Lib.hid hbm; have hvm := hbm.shape; replace HM := Lib.hid (HM.out.of hn); clear hbm; obtain ⟨n5, a5, q5, e5, rfl⟩ := hvm) | (go_at_call 21; refine (bigMul_any _ _ f2 t2 11 11 _ HM.out HN.out (by decide)).mono ?_; rintro e w6 ⟨vm, rfl, hbm, hn⟩; rw [HQ2.out] at hbm; have HP := Lib.hid hbm; have hvm := hbm.shape; clear hbm HM HN; obtain ⟨p2, pa2, pl2, pc2, rfl⟩ := hvm)))
  refine hK.out _ _ hn ?_
  replace hb := hb.trans (hn.mono hb.size)
  clear hK K
  clear hn
  refine wpF_nil ?_
  clear hb
  intro w1 hg hb b1 lb1 nb1
  replace HP := Lib.hid (HP.out.of hg)
  clear hg
  simp only [Act.put, ptrTo, List.setIfInBounds_toArray, List.set_cons_succ, List.set_cons_zero]
  simp only [List.drop_succ_cons, List.drop_zero]
  have kp : Blk w1 b1 #[.bool false, .slice none 0 0] 33 := nb1
  have kz1 := HKZ.out.of hb
  have hzb : u2.heap.size + 1 ≠ b1 := by have := HKZ.out.lt; omega
  clear cl0 cl1 cl2 cl3 cl4 cl5 cl6 cl7 ll
  clear co0 co1 co2 co3 co4 co5 lo
  have cp0 := kp.cell 0
  have fp0 := kp.free 0
  have cp1 := kp.cell 1
  have fp1 := kp.free 1
  have lp := kp.lt
  simp only [List.getElem?_toArray, List.getElem?_cons_zero, List.getElem?_cons_succ] at cp0 cp1
  have cz0 := kz1.cell 0
  have cz1 := kz1.cell 1
  have lz := kz1.lt
  simp only [List.getElem?_toArray, List.getElem?_cons_zero, List.getElem?_cons_succ] at cz0 cz1
  go_wp2_with fail
  refine calls_w ?_
  intro V2 hV2
  replace kp : Blk V2 b1 #[.bool p2, .slice pa2 pl2 pc2] 33 := by rw [hV2]; exact k_put2 kp _ _
  replace HP := Lib.hid (show Big V2 (.agg #[.bool p2, .slice pa2 pl2 pc2]) q2 22 by rw [hV2]; exact HP.out.set2 cp0 _ _)
  replace HS := Lib.hid (show Big V2 (.agg #[.bool m1, .slice ma1 ml1 mc1]) s1 32 by rw [hV2]; exact (HS.out.of hb).set2 cp0 _ _)
  replace hb : Below Y2.heap.size Y2 V2 := by rw [hV2]; exact set2_below hb lb1 _ _
  clear hV2 kz1 nb1
  clear cp0 fp0 cp1 fp1 lp
  clear cz0 cz1 lz
  clear kp hzb
  refine (bigAdd_any _ _ s1 q2 32 _ HS.out (HP.out.mono (by decide)) (by decide)).mono ?_
  rintro e a2 ⟨vm, rfl, hbm, hn⟩
  rw [HS2.out] at hbm
  replace HS := Lib.hid hbm
  replace hb := hb.trans (hn.mono hb.size)
  have hvm := hbm.shape
  clear hn hbm HP lb1
  obtain ⟨m2, ma2, ml2, mc2, rfl⟩ := hvm
  have kz := HKZ.out.of hb
  have kl := HKL.out.of hb
  clear HKL HKZ
  have ka : QVar a2 _ _ _ := Ha.out.of hb
  clear Ha
  have kb : QVar a2 _ _ _ := Hb.out.of hb
  clear Hb
  have kc : QVar a2 _ _ _ := Hc.out.of hb
  clear Hc
  have kd : QVar a2 _ _ _ := Hd.out.of hb
  clear Hd
  replace hb0 := hb0.trans (hb.mono hb0.size)
  clear hb
  have cz0 := kz.cell 0
  have fz0 := kz.free 0
  have cz1 := kz.cell 1
  have fz1 := kz.free 1
  have lz := kz.lt
  simp only [List.getElem?_toArray, List.getElem?_cons_zero, List.getElem?_cons_succ] at cz0 cz1
  go_wp2_with fail
  rw [rounds_succ]
  refine name_world ?_
  intro R2 hR2
  replace kz : Blk R2 (u2.heap.size + 1) #[.bool m2, .slice ma2 ml2 mc2] 33 := by rw [hR2]; exact k_put2 kz _ _
  replace HS := Lib.hid (show Big R2 (.agg #[.bool m2, .slice ma2 ml2 mc2]) s2 (32 + 1) by rw [hR2]; exact HS.out.set2 cz0 _ _)
  have hlt := HLT.out
  replace kl := show Blk R2 u2.heap.size _ _ by rw [hR2]; exact k_sett kl (by omega) _ _
  replace ka : QVar R2 (v.heap.size) ax ay := by rw [hR2]; exact k_sett ka (by omega) _ _
  replace kb : QVar R2 (v.heap.size + 1) bx b_y := by rw [hR2]; exact k_sett kb (by omega) _ _
  replace kc : QVar R2 (v.heap.size + 1 + 1) cx cy := by rw [hR2]; exact k_sett kc (by omega) _ _
  replace kd : QVar R2 (v.heap.size + 1 + 1 + 1) px py := by rw [hR2]; exact k_sett kd (by omega) _ _
  replace hb0 : Below v.heap.size v R2 := by rw [hR2]; exact set2_below hb0 (by omega) _ _
  clear hR2 hlt
  clear cz0 fz0 cz1 fz1 lz
  have cl0 := kl.cell 0
  have cl1 := kl.cell 1
  have cl2 := kl.cell 2
  have cl3 := kl.cell 3
  have cl4 := kl.cell 4
  have cl5 := kl.cell 5
  have cl6 := kl.cell 6
  have cl7 := kl.cell 7
  have ll := kl.lt
  simp only [List.getElem?_toArray, List.getElem?_cons_zero, List.getElem?_cons_succ] at cl0 cl1 cl2 cl3 cl4 cl5 cl6 cl7
  go_wp2_with fail
  clear cl0 cl1 cl2 cl3 cl4 cl5 cl6 cl7 ll
  refine name_world ?_
  intro X3 hX3
  have ko : Blk X3 R2.heap.size #[.int .i64 0, .int .i64 0, .int .i64 0, .int .i64 0, .int .i64 0, .int .i64 0] 108 := by rw [hX3]; exact Blk.new _ _ _
  have hv : Below R2.heap.size R2 X3 := by rw [hX3]; exact below_a1 _ _
  have hlo : u2.heap.size ≠ R2.heap.size := by have := kl.lt; omega
  have kx := kl.of hv
  clear hX3
  have cl0 := kx.cell 0
  have cl1 := kx.cell 1
  have cl2 := kx.cell 2
  have cl3 := kx.cell 3
  have cl4 := kx.cell 4
  have cl5 := kx.cell 5
  have cl6 := kx.cell 6
  have cl7 := kx.cell 7
  have ll := kx.lt
  simp only [List.getElem?_toArray, List.getElem?_cons_zero, List.getElem?_cons_succ] at cl0 cl1 cl2 cl3 cl4 cl5 cl6 cl7
  have co0 := ko.cell 0
  have fo0 := ko.free 0
  have co1 := ko.cell 1
  have fo1 := ko.free 1
  have co2 := ko.cell 2
  have fo2 := ko.free 2
  have co3 := ko.cell 3
  have fo3 := ko.free 3
  have co4 := ko.cell 4
  have fo4 := ko.free 4
  have co5 := ko.cell 5
  have fo5 := ko.free 5
  have lo := ko.lt
  simp only [List.getElem?_toArray, List.getElem?_cons_zero, List.getElem?_cons_succ] at co0 co1 co2 co3 co4 co5
  refine wp_loop_rounds 5 ?_
  iterate 5
    rw [rounds_succ]
    go_wp2_with fail
  clear cl0 cl1 cl2 cl3 cl4 cl5 cl6 cl7 ll
  clear co0 fo0 co1 fo1 co2 fo2 co3 fo3 co4 fo4 co5 fo5 lo
  refine name_world ?_
  intro Y3 hY3
  replace ko : Blk Y3 R2.heap.size #[.int .i64 ax, .int .i64 ay, .int .i64 bx, .int .i64 b_y, .int .i64 cx, .int .i64 cy] 108 := by rw [hY3]; exact ko.put6 _ _ _ _ _ _
  replace hv : Below R2.heap.size R2 Y3 := by rw [hY3]; exact sets6_below hv (Nat.le_refl _) _ _ _ _ _ _
  clear hY3 hlo kx
  replace ka : QVar Y3 _ _ _ := ka.of hv
  replace kb : QVar Y3 _ _ _ := kb.of hv
  replace kc : QVar Y3 _ _ _ := kc.of hv
  replace kd : QVar Y3 _ _ _ := kd.of hv
  replace kl := kl.of hv
  replace kz := kz.of hv
  replace HS := Lib.hid (HS.out.of hv)
  replace hb0 := hb0.trans (hv.mono hb0.size)
  clear hv
  have cl0 := kl.cell 0
  have cl1 := kl.cell 1
  have cl2 := kl.cell 2
  have cl3 := kl.cell 3
  have cl4 := kl.cell 4
  have cl5 := kl.cell 5
  have cl6 := kl.cell 6
  have cl7 := kl.cell 7
  have ll := kl.lt
  simp only [List.getElem?_toArray, List.getElem?_cons_zero, List.getElem?_cons_succ] at cl0 cl1 cl2 cl3 cl4 cl5 cl6 cl7
  have co0 := ko.cell 0
  have co1 := ko.cell 1
  have co2 := ko.cell 2
  have co3 := ko.cell 3
  have co4 := ko.cell 4
  have co5 := ko.cell 5
  have lo := ko.lt
  simp only [List.getElem?_toArray, List.getElem?_cons_zero, List.getElem?_cons_succ] at co0 co1 co2 co3 co4 co5
  have Ha := Lib.hid ka
  clear ka
  have Hb := Lib.hid kb
  clear kb
  have Hc := Lib.hid kc
  clear kc
  have Hd := Lib.hid kd
  clear kd
  have HKL := Lib.hid kl
  have HKZ := Lib.hid kz
  clear kl kz ko
  refine wp_region_float1 13 12 [(true, 0), (true, 1), (true, 2), (true, 4), (true, 5), (true, 6), (true, 7), (true, 8), (true, 9), (false, 3), (false, 10), (false, 11)] (by kernel_rfl) (by kernel_rfl) (fun _ _ d _ _ => by cases d <;> exact Iff.rfl) rfl rfl rfl allocBg ?_
  have hb : Below Y3.heap.size Y3 Y3.drew := (Below.refl _ _).drew
  iterate 9
    refine wpF_take rfl rfl ?_
    go_big_quiet_step (rfl)
    refine wpQuiet_nil ?_
  refine wpF_do rfl ?_
  intro w1 hg K hK
  replace hb := hb.trans (hg.mono hb.size)
  try replace HM := Lib.hid (HM.out.of hg) ;; try replace HN := Lib.hid (HN.out.of hg)
  clear hg
  go_wp2_with ((first | (go_at_call 87; (with_reducible refine (lift_any px py _ (co64 KP1.out) (co64 KP2.out)).mono ?_); rintro e w4 ⟨vm, rfl, hbm, hn⟩; rw [HF3.out] at hbm; have HM := Lib.hid hbm; have hvm := hbm.shape; clear hbm; obtain ⟨n4, a4, q4, e4, rfl⟩ := hvm) | (go_at_call 49; (with_reducible refine (rTurn_any ax ay bx b_y cx cy KA1.out KA2.out KB1.out KB2.out KC1.out KC2.out _).mono ?_); rintro e w5 ⟨vm, rfl, hbm, hn⟩; rw [HT3.out] at hbm; have HN := Lib.hid hbm; have hvm := hbm.shape; replace HM := Lib.hid (HM.out.of hn); clear hbm; obtain ⟨n5, a5, q5, e5, rfl⟩ := hvm) | (go_at_call 21; refine (bigMul_any _ _ f3 t3 11 11 _ HM.out HN.out (by decide)).mono ?_; rintro e w6 ⟨vm, rfl, hbm, hn⟩; rw [HQ3.out] at hbm; have HP := Lib.hid hbm; have hvm := hbm.shape; clear hbm HM HN; obtain ⟨p3, pa3, pl3, pc3, rfl⟩ := hvm)))
  refine hK.out _ _ hn ?_
  replace hb := hb.trans (hn.mono hb.size)
  clear hK K
  clear hn
  refine wpF_do rfl ?_
  intro w1 hg K hK
  replace hb := hb.trans (hg.mono hb.size)
  try replace HM := Lib.hid (HM.out.of hg) ;; try replace HN := Lib.hid (HN.out.of hg)
  clear hg
  go_wp2_with ((first | (go_at_call 87; (with_reducible refine (lift_any px py _ (co64 KP1.out) (co64 KP2.out)).mono ?_); rintro e w4 ⟨vm, rfl, hbm, hn⟩; rw [HF3.out] at hbm; have HM := Lib.hid hbm; have hvm := hbm.shape; clear hbm; obtain ⟨n4, a4, q4, e4, rfl⟩ := hvm) | (go_at_call 49; (with_reducible refine (rTurn_any ax ay bx b_y cx cy KA1.out KA2.out KB1.out KB2.out KC1.out KC2.out _).mono ?_); rintro e w5 ⟨vm, rfl, hbm, hn⟩; rw [HT3.out] at hbm; have HN := Lib.hid hbm; have hvm := hbm.shape; replace HM := Lib.hid (HM.out.of hn); clear hbm; obtain ⟨n5, a5, q5, e5, rfl⟩ := hvm) | (go_at_call 21; refine (bigMul_any _ _ f3 t3 11 11 _ HM.out HN.out (by decide)).mono ?_; rintro e w6 ⟨vm, rfl, hbm, hn⟩; rw [HQ3.out] at hbm; have HP := Lib.hid hbm; have hvm := hbm.shape; clear hbm HM HN; obtain ⟨p3, pa3, pl3, pc3, rfl⟩ := hvm)))
  refine hK.out _ _ hn ?_
  replace hb := hb.trans (hn.mono hb.size)
  clear hK K
  clear hn
  refine wpF_do rfl ?_
  intro w1 hg K hK
  replace hb := hb.trans (hg.mono hb.size)
  try replace HM := Lib.hid (HM.out.of hg) ;; try replace HN := Lib.hid (HN.out.of hg)
  clear hg
  go_wp2_with ((first | (go_at_call 87; (with_reducible refine (lift_any px py _ (co64 KP1.out) (co64 KP2.out)).mono ?_); rintro e w4 ⟨vm, rfl, hbm, hn⟩; rw [HF3.out] at hbm; have HM := Lib.hid hbm; have hvm := hbm.shape; clear hbm; obtain ⟨n4, a4, q4, e4, rfl⟩ := hvm) | (go_at_call 49; (with_reducible refine (rTurn_any ax ay bx b_y cx cy KA1.out KA2.out KB1.out KB2.out KC1.out KC2.out _).mono ?_); rintro e w5 ⟨vm, rfl, hbm, hn⟩; rw [HT3.out] at hbm; have HN := Lib.hid hbm; have hvm := hbm.shape; replace HM := Lib.hid (HM.out.of hn); clear hbm; obtain ⟨n5, a5, q5, e5, rfl⟩ := hvm) | (go_at_call 21; refine (bigMul_any _ _ f3 t3 11 11 _ HM.out HN.out (by decide)).mono ?_; rintro e w6 ⟨vm, rfl, hbm, hn⟩; rw [HQ3.out] at hbm; have HP := Lib.hid hbm; have hvm := hbm.shape; clear hbm HM HN; obtain ⟨p3, pa3, pl3, pc3, rfl⟩ := hvm)))
  refine hK.out _ _ hn ?_
  replace hb := hb.trans (hn.mono hb.size)
  clear hK K
  clear hn
  refine wpF_nil ?_
  clear hb
  intro w1 hg hb b1 lb1 nb1
  replace HP := Lib.hid (HP.out.of hg)
  clear hg
  simp only [Act.put, ptrTo, List.setIfInBounds_toArray, List.set_cons_succ, List.set_cons_zero]
  simp only [List.drop_succ_cons, List.drop_zero]
  have kp : Blk w1 b1 #[.bool false, .slice none 0 0] 33 := nb1
  have kz1 := HKZ.out.of hb
  have hzb : u2.heap.size + 1 ≠ b1 := by have := HKZ.out.lt; omega
  clear cl0 cl1 cl2 cl3 cl4 cl5 cl6 cl7 ll
  clear co0 co1 co2 co3 co4 co5 lo
  have cp0 := kp.cell 0
  have fp0 := kp.free 0
  have cp1 := kp.cell 1
  have fp1 := kp.free 1
  have lp := kp.lt
  simp only [List.getElem?_toArray, List.getElem?_cons_zero, List.getElem?_cons_succ] at cp0 cp1
  have cz0 := kz1.cell 0
  have cz1 := kz1.cell 1
  have lz := kz1.lt
  simp only [List.getElem?_toArray, List.getElem?_cons_zero, List.getElem?_cons_succ] at cz0 cz1
  go_wp2_with fail
  refine calls_w ?_
  intro V3 hV3
  replace kp : Blk V3 b1 #[.bool p3, .slice pa3 pl3 pc3] 33 := by rw [hV3]; exact k_put2 kp _ _
  replace HP := Lib.hid (show Big V3 (.agg #[.bool p3, .slice pa3 pl3 pc3]) q3 22 by rw [hV3]; exact HP.out.set2 cp0 _ _)
  replace HS := Lib.hid (show Big V3 (.agg #[.bool m2, .slice ma2 ml2 mc2]) s2 33 by rw [hV3]; exact (HS.out.of hb).set2 cp0 _ _)
  replace hb : Below Y3.heap.size Y3 V3 := by rw [hV3]; exact set2_below hb lb1 _ _
  clear hV3 kz1 nb1
  clear cp0 fp0 cp1 fp1 lp
  clear cz0 cz1 lz
  refine (Minus_any _ q3 22 _ HP.out).mono ?_
  rintro e z3 ⟨vm, rfl, hbm, hn⟩
  replace kp := kp.of hn
  replace HS := Lib.hid (HS.out.of hn)
  replace HP := Lib.hid hbm
  replace hb := hb.trans (hn.mono hb.size)
  have hvm := hbm.shape
  clear hn hbm
  obtain ⟨o3, oa3, ol3, oc3, rfl⟩ := hvm
  have kz1 := HKZ.out.of hb
  have cp0 := kp.cell 0
  have fp0 := kp.free 0
  have cp1 := kp.cell 1
  have fp1 := kp.free 1
  have lp := kp.lt
  simp only [List.getElem?_toArray, List.getElem?_cons_zero, List.getElem?_cons_succ] at cp0 cp1
  have cz0 := kz1.cell 0
  have cz1 := kz1.cell 1
  have lz := kz1.lt
  simp only [List.getElem?_toArray, List.getElem?_cons_zero, List.getElem?_cons_succ] at cz0 cz1
  go_wp2_with fail
  refine calls_w ?_
  intro Z3 hZ3
  replace HP := Lib.hid (show Big Z3 (.agg #[.bool o3, .slice oa3 ol3 oc3]) (-q3) 22 by rw [hZ3]; exact HP.out.set2 cp0 _ _)
  replace HS := Lib.hid (show Big Z3 (.agg #[.bool m2, .slice ma2 ml2 mc2]) s2 33 by rw [hZ3]; exact HS.out.set2 cp0 _ _)
  replace hb : Below Y3.heap.size Y3 Z3 := by rw [hZ3]; exact set2_below hb lb1 _ _
  clear hZ3 kz1
  clear cp0 fp0 cp1 fp1 lp
  clear cz0 cz1 lz
  clear kp hzb
  refine (bigAdd_any _ _ s2 (-q3) 33 _ HS.out (HP.out.mono (by decide)) (by decide)).mono ?_
  rintro e a3 ⟨vm, rfl, hbm, hn⟩
  rw [HS3.out] at hbm
  replace HS := Lib.hid hbm
  replace hb := hb.trans (hn.mono hb.size)
  have hvm := hbm.shape
  clear hn hbm HP lb1
  obtain ⟨m3, ma3, ml3, mc3, rfl⟩ := hvm
  have kz := HKZ.out.of hb
  have kl := HKL.out.of hb
  clear HKL HKZ
  have ka : QVar a3 _ _ _ := Ha.out.of hb
  clear Ha
  have kb : QVar a3 _ _ _ := Hb.out.of hb
  clear Hb
  have kc : QVar a3 _ _ _ := Hc.out.of hb
  clear Hc
  have kd : QVar a3 _ _ _ := Hd.out.of hb
  clear Hd
  replace hb0 := hb0.trans (hb.mono hb0.size)
  clear hb
  have cz0 := kz.cell 0
  have fz0 := kz.free 0
  have cz1 := kz.cell 1
  have fz1 := kz.free 1
  have lz := kz.lt
  simp only [List.getElem?_toArray, List.getElem?_cons_zero, List.getElem?_cons_succ] at cz0 cz1
  go_wp2_with fail
  rw [rounds_succ]
  refine name_world ?_
  intro R3 hR3
  replace kz : Blk R3 (u2.heap.size + 1) #[.bool m3, .slice ma3 ml3 mc3] 33 := by rw [hR3]; exact k_put2 kz _ _
  replace HS := Lib.hid (show Big R3 (.agg #[.bool m3, .slice ma3 ml3 mc3]) s3 (33 + 1) by rw [hR3]; exact HS.out.set2 cz0 _ _)
  have hlt := HLT.out
  replace kl := show Blk R3 u2.heap.size _ _ by rw [hR3]; exact k_sett kl (by omega) _ _
  replace ka : QVar R3 (v.heap.size) ax ay := by rw [hR3]; exact k_sett ka (by omega) _ _
  replace kb : QVar R3 (v.heap.size + 1) bx b_y := by rw [hR3]; exact k_sett kb (by omega) _ _
  replace kc : QVar R3 (v.heap.size + 1 + 1) cx cy := by rw [hR3]; exact k_sett kc (by omega) _ _
  replace kd : QVar R3 (v.heap.size + 1 + 1 + 1) px py := by rw [hR3]; exact k_sett kd (by omega) _ _
  replace hb0 : Below v.heap.size v R3 := by rw [hR3]; exact set2_below hb0 (by omega) _ _
  clear hR3 hlt
  clear cz0 fz0 cz1 fz1 lz
  have ca := QVar.c ka
  have la := ka.lt
  have cb := QVar.c kb
  have lb := kb.lt
  have cc := QVar.c kc
  have lc := kc.lt
  have cd := QVar.c kd
  have ld := kd.lt
  have cz0 := kz.cell 0
  have cz1 := kz.cell 1
  have lz := kz.lt
  simp only [List.getElem?_toArray, List.getElem?_cons_zero, List.getElem?_cons_succ] at cz0 cz1
  have hr := HR.out
  clear kl
  go_wp2_with fail
  clear ka kb kc kd kz
  refine wp_region_up R3.heap.size 5 [(true, 0), (true, 2), (true, 3), (true, 4), (false, 1)] (by kernel_rfl) (by kernel_rfl) (fun _ _ d _ _ h => by cases d <;> exact h) ?_
  have hb : Below R3.heap.size R3 R3.drew := (Below.refl _ _).drew
  iterate 4
    refine wpS_takeL rfl rfl ?_
    go_big_quiet_step (rfl)
    refine wpQuiet_nil ?_
  refine wpS_doL rfl ?_
  intro K hK
  go_wp2_with ((go_at_call 28; (with_reducible refine (bSign_is _ s3 34 z HZ.out _ (HS.out.of hb)).mono ?_); rintro e w2 ⟨rfl, hn⟩))
  replace hb := hb.trans (hn.mono hb.size)
  refine hK.out _ _ (up_iff.2 hb) ?_
  clear hK K
  clear hn
  refine wpS_nil ?_
  simp only [List.drop_succ_cons, List.drop_zero]
  replace hb0 := hb0.trans (hb.mono hb0.size)
  clear hb
  go_wp2_with fail
  refine (kWay_is ax ay bx b_y cx cy w HW.out _).mono ?_
  rintro e e9 ⟨rfl, hn⟩
  replace hb0 := hb0.trans (hn.mono hb0.size)
  clear hn
  go_wp2
  go_ret
  exact ⟨hr ▸ rfl, hb0⟩

set_option maxRecDepth 100000 in
set_option maxHeartbeats 1000000 in
theorem rCirc_no1 (ax ay bx b_y cx cy px py : Int) (hg : rp px py = false) (v : World) :
    Calls Try.prog 48 #[pI ax ay, pI bx b_y, pI cx cy, pI px py] v fun e w' => e = .returned (.int .i64 0) ∧ Below v.heap.size v w' := by
  have HG := Lib.hid hg
  clear hg
  go_enter Try.func48, Try.ntmps48
  go_wp2_with fail
  first | refine calls_w ?_ | refine name_world ?_
  intro W hW
  have ka : QVar W (v.heap.size) ax ay := by rw [hW]; exact (Blk.new v _ _) |>.alloc _ |>.alloc _ |>.alloc _
  have kb : QVar W (v.heap.size + 1) bx b_y := by rw [hW]; exact (Blk.new1 v _ _ _) |>.alloc _ |>.alloc _
  have kc : QVar W (v.heap.size + 1 + 1) cx cy := by rw [hW]; exact (Blk.new2 v _ _ _ _) |>.alloc _
  have kd : QVar W (v.heap.size + 1 + 1 + 1) px py := by rw [hW]; exact (Blk.new3 v _ _ _ _ _)
  have hb0 : Below v.heap.size v W := by rw [hW]; exact (below_a3 _ _ _ _).alloc (by simp; omega) _
  clear hW
  refine (kR_is px py false HG.out _).mono ?_
  rintro e u1 ⟨rfl, hn⟩
  replace ka : QVar u1 _ _ _ := ka.of hn
  replace kb : QVar u1 _ _ _ := kb.of hn
  replace kc : QVar u1 _ _ _ := kc.of hn
  replace kd : QVar u1 _ _ _ := kd.of hn
  replace hb0 := hb0.trans (hn.mono hb0.size)
  clear hn 
  have ca := QVar.c ka
  have la := ka.lt
  have cb := QVar.c kb
  have lb := kb.lt
  have cc := QVar.c kc
  have lc := kc.lt
  have cd := QVar.c kd
  have ld := kd.lt
  go_wp2
  go_ret
  exact ⟨rfl, hb0⟩

set_option maxRecDepth 100000 in
set_option maxHeartbeats 1000000 in
theorem rCirc_no2 (ax ay bx b_y cx cy px py : Int) (hg : rp px py = true) (hw : way ax ay bx b_y cx cy = 0) (v : World) :
    Calls Try.prog 48 #[pI ax ay, pI bx b_y, pI cx cy, pI px py] v fun e w' => e = .returned (.int .i64 0) ∧ Below v.heap.size v w' := by
  have HG := Lib.hid hg
  have HW := Lib.hid hw
  clear hg hw
  go_enter Try.func48, Try.ntmps48
  go_wp2_with fail
  first | refine calls_w ?_ | refine name_world ?_
  intro W hW
  have ka : QVar W (v.heap.size) ax ay := by rw [hW]; exact (Blk.new v _ _) |>.alloc _ |>.alloc _ |>.alloc _
  have kb : QVar W (v.heap.size + 1) bx b_y := by rw [hW]; exact (Blk.new1 v _ _ _) |>.alloc _ |>.alloc _
  have kc : QVar W (v.heap.size + 1 + 1) cx cy := by rw [hW]; exact (Blk.new2 v _ _ _ _) |>.alloc _
  have kd : QVar W (v.heap.size + 1 + 1 + 1) px py := by rw [hW]; exact (Blk.new3 v _ _ _ _ _)
  have hb0 : Below v.heap.size v W := by rw [hW]; exact (below_a3 _ _ _ _).alloc (by simp; omega) _
  clear hW
  refine (kR_is px py true HG.out _).mono ?_
  rintro e u1 ⟨rfl, hn⟩
  replace ka : QVar u1 _ _ _ := ka.of hn
  replace kb : QVar u1 _ _ _ := kb.of hn
  replace kc : QVar u1 _ _ _ := kc.of hn
  replace kd : QVar u1 _ _ _ := kd.of hn
  replace hb0 := hb0.trans (hn.mono hb0.size)
  clear hn 
  have ca := QVar.c ka
  have la := ka.lt
  have cb := QVar.c kb
  have lb := kb.lt
  have cc := QVar.c kc
  have lc := kc.lt
  have cd := QVar.c kd
  have ld := kd.lt
  go_wp2_with fail
  clear ca la cb lb cc lc cd ld
  refine (kWay_is ax ay bx b_y cx cy 0 HW.out _).mono ?_
  rintro e u2 ⟨rfl, hn⟩
  replace ka : QVar u2 _ _ _ := ka.of hn
  replace kb : QVar u2 _ _ _ := kb.of hn
  replace kc : QVar u2 _ _ _ := kc.of hn
  replace kd : QVar u2 _ _ _ := kd.of hn
  replace hb0 := hb0.trans (hn.mono hb0.size)
  clear hn 
  have ca := QVar.c ka
  have la := ka.lt
  have cb := QVar.c kb
  have lb := kb.lt
  have cc := QVar.c kc
  have lc := kc.lt
  have cd := QVar.c kd
  have ld := kd.lt
  go_wp2
  go_ret
  exact ⟨rfl, hb0⟩

theorem crc_no1 {ax ay bx b_y cx cy px py : Int} (hg : rp px py = false) : crc ax ay bx b_y cx cy px py = 0 := by
  unfold crc rp4; rw [hg]; simp
theorem crc_no2 {ax ay bx b_y cx cy px py : Int} (hw : way ax ay bx b_y cx cy = 0) : crc ax ay bx b_y cx cy px py = 0 := by
  unfold way at hw; unfold crc
  have h4 : rp4 ax ay bx b_y cx cy px py = (rp3 ax ay bx b_y cx cy && rp px py) := by unfold rp4 rp3; rfl
  rw [h4]
  cases h : rp3 ax ay bx b_y cx cy
  · rfl
  · rw [h, cond_true] at hw
    rw [hw, Int.mul_zero]; cases rp px py <;> rfl
theorem rCirc_any (ax ay bx b_y cx cy px py : Int) (v : World) :
    Calls Try.prog 48 #[pI ax ay, pI bx b_y, pI cx cy, pI px py] v fun e w' => e = .returned (.int .i64 (crc ax ay bx b_y cx cy px py)) ∧ Below v.heap.size v w' := by
  cases hg : rp px py
  · rw [crc_no1 hg]; exact rCirc_no1 _ _ _ _ _ _ _ _ hg v
  by_cases hw : way ax ay bx b_y cx cy = 0
  · rw [crc_no2 hw]; exact rCirc_no2 _ _ _ _ _ _ _ _ hg hw v
  have h3 : rp3 ax ay bx b_y cx cy = true := by
    cases h : rp3 ax ay bx b_y cx cy
    · exact absurd (by unfold way; rw [h]; rfl) hw
    · rfl
  obtain ⟨c1, c2, c3, c4, c5, c6⟩ := rp3_co h3
  obtain ⟨c7, c8⟩ := rp_co hg
  have hwv : way ax ay bx b_y cx cy = (trn ax ay bx b_y cx cy).sign := by unfold way; rw [h3]; rfl
  have h4 : rp4 ax ay bx b_y cx cy px py = true := by
    have : rp4 ax ay bx b_y cx cy px py = (rp3 ax ay bx b_y cx cy && rp px py) := by unfold rp4 rp3; rfl
    rw [this, h3, hg]; rfl
  have hv : crc ax ay bx b_y cx cy px py = (crs ax ay bx b_y cx cy px py).sign * (trn ax ay bx b_y cx cy).sign := by unfold crc; rw [h4]; rfl
  refine rCirc_go ax ay bx b_y cx cy px py (way ax ay bx b_y cx cy) _ _ _ _ _ _ _ _ _ _ _ _ _ _ _ _ _ _ hg rfl (by simpa using hw) c1 c2 c3 c4 c5 c6 c7 c8 rfl rfl rfl rfl rfl rfl rfl rfl rfl rfl rfl rfl rfl rfl rfl rfl rfl ?_ v
  rw [hv, hwv, ← crs_det, Int.zero_add]
  exact wrap_signs _ _
end Go.Proofs.Ytgddpkopbiendaa
