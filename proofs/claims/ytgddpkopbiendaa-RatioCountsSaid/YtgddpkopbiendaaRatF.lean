/- The walk of gromalaw02's RatioFloors. Conditions: the numbers are numbers of 256 bits. -/
import Derived.Test.YtgddpkopbiendaaRatL2
namespace Go.Proofs.Ytgddpkopbiendaa
open Go.RowKit

theorem allocBig : AllocRuns Try.prog 33 #[.bool false, .slice none 0 0] := fun w => by kernel_rfl
theorem allocR : AllocRuns Try.prog 26 (rC 0 0) := fun w => by kernel_rfl
theorem bigCmp_is (v v' : Value) (n m : Int) (L L' : Nat) (c : Int) (hc : cmpI n m = c) (w : World) (h : Big w v n L) (h' : Big w v' m L') :
    Calls Try.prog 24 #[v, v'] w fun e w' => e = .returned (.int .i64 c) ∧ Below w.heap.size w w' := hc ▸ bigCmp_any v v' n m L L' w h h'
abbrev BigVar (w : World) (b : Nat) (neg : Bool) (a : Option Addr) (l c : Nat) : Prop := Blk w b #[.bool neg, .slice a l c] 33
theorem BigVar.c {w : World} {b : Nat} {neg : Bool} {a : Option Addr} {l c : Nat} (h : BigVar w b neg a l c) : w.cell? ⟨b, 0, none⟩ = some (.bool neg) ∧ w.cell? ⟨b, 1, none⟩ = some (.slice a l c) := ⟨h.cell 0, h.cell 1⟩
theorem BigVar.f {w : World} {b : Nat} {neg : Bool} {a : Option Addr} {l c : Nat} (h : BigVar w b neg a l c) : w.frozen? ⟨b, 0, none⟩ = false ∧ w.frozen? ⟨b, 1, none⟩ = false := ⟨h.free 0, h.free 1⟩
abbrev BRVar (w : World) (b : Nat) (n1 : Bool) (a1 : Option Addr) (l1 c1 : Nat) (n2 : Bool) (a2 : Option Addr) (l2 c2 : Nat) : Prop := Blk w b #[.bool n1, .slice a1 l1 c1, .bool n2, .slice a2 l2 c2] 35
theorem BRVar.c {w : World} {b : Nat} {n1 : Bool} {a1 : Option Addr} {l1 c1 : Nat} {n2 : Bool} {a2 : Option Addr} {l2 c2 : Nat} (h : BRVar w b n1 a1 l1 c1 n2 a2 l2 c2) :
    (w.cell? ⟨b, 0, none⟩ = some (.bool n1) ∧ w.cell? ⟨b, 1, none⟩ = some (.slice a1 l1 c1)) ∧ (w.cell? ⟨b, 2, none⟩ = some (.bool n2) ∧ w.cell? ⟨b, 3, none⟩ = some (.slice a2 l2 c2)) := ⟨⟨h.cell 0, h.cell 1⟩, h.cell 2, h.cell 3⟩

set_option maxRecDepth 100000 in
set_option maxHeartbeats 2000000 in
theorem Floors_no (n d : Int) (w : World) (hn : InI n) (hd : InI d) (hr : decide (0 < d) = false) :
    Calls Try.prog 3 #[rI n d] w fun e w' => e = .returned (.bool true) ∧ Below w.heap.size w w' := by
  go_enter Try.func3, Try.ntmps3
  have HR := Lib.hid hr
  clear hr
  go_wp2_with fail
  refine calls_w ?_
  intro W hW
  have kr : RVar W w.heap.size n d := by rw [hW]; exact Blk.new _ _ _
  have hb : Below w.heap.size w W := by rw [hW]; exact below_a1 _ _
  clear hW
  refine (Floor_any n d _ hn hd false HR.out).mono ?_
  rintro e w1 ⟨rfl, hn1⟩
  replace kr : RVar w1 _ _ _ := kr.of hn1
  replace hb := hb.trans (hn1.mono hb.size)
  clear hn1
  have c := RVar.c kr
  have l0 := kr.lt
  go_wp2_with fail
  refine calls_w ?_
  intro W1 hW
  have kf : Var W1 w1.heap.size 0 := by rw [hW]; exact Blk.new _ _ _
  replace kr : RVar W1 w.heap.size n d := by rw [hW]; exact kr.alloc _
  replace hb : Below w.heap.size w W1 := by rw [hW]; exact hb.alloc hb.size _
  clear hW c l0
  refine (right_is n d _ hd false HR.out).mono ?_
  rintro e w2 ⟨rfl, hn1⟩
  replace kr : RVar w2 _ _ _ := kr.of hn1
  replace kf : Var w2 _ _ := kf.of hn1
  replace hb := hb.trans (hn1.mono hb.size)
  clear hn1
  have c := RVar.c kr
  have cf := Var.c kf
  have e4 : eq4 (wd0 0) (wd1 0) (wd2 0) (wd3 0) 0 0 0 0 = true := by decide
  go_wp2_with fail
  refine (Whole_any n d _ hn hd false _ HR.out rfl).mono ?_
  rintro e w3 ⟨rfl, hn1⟩
  replace hb := hb.trans (hn1.mono hb.size)
  clear hn1 c cf e4 kr kf
  go_wp2_with fail
  refine (awake_any _).mono ?_
  rintro e w4 ⟨rfl, hn1⟩
  replace hb := hb.trans (hn1.mono hb.size)
  clear hn1
  go_wp2
  go_ret
  exact ⟨rfl, hb⟩

theorem cmp_floor {n d : Int} (hd : 0 < d) (z : Bool) (hz : decide (n % d = 0) = z) : cmpI (n / d * d) n = (bif z then 0 else -1) ∧ cmpI (n / d * d + d) n = 1 := by
  have h1 := Int.emod_add_mul_ediv n d
  have h2 := Int.emod_nonneg n (show d ≠ 0 by omega)
  have h3 := Int.emod_lt_of_pos n hd
  rw [Int.mul_comm] at h1
  cases z
  · have h := of_decide_eq_false hz
    exact ⟨cmpI_lt (by omega), cmpI_gt (by omega)⟩
  · have h := of_decide_eq_true hz
    have e : n / d * d = n := by omega
    rw [e]
    exact ⟨cmpI_eq n, cmpI_gt (by omega)⟩

set_option maxRecDepth 100000 in
set_option maxHeartbeats 4000000 in
theorem Floors_yes (n d : Int) (w : World) (ix : InI n) (iy : InI d) (hr : decide (0 < d) = true) (z : Bool) (hz : decide (n % d = 0) = z) :
    Calls Try.prog 3 #[rI n d] w fun e w' => e = .returned (.bool true) ∧ Below w.heap.size w w' := by
  have hd0 : 0 < d := of_decide_eq_true hr
  obtain ⟨q, hq⟩ : ∃ q, q = n / d := ⟨_, rfl⟩
  have iq : InI q := hq ▸ ediv_in ix hd0
  obtain ⟨e1, e2⟩ := cmp_floor hd0 z hz
  rw [← hq] at e1 e2
  obtain ⟨c1, hc1⟩ : ∃ c1, c1 = (bif z then (0 : Int) else -1) := ⟨_, rfl⟩
  rw [← hc1] at e1
  have hle : decide (c1 ≤ 0) = true := by rw [hc1]; cases z <;> rfl
  have heq : (c1 == 0) = z := by rw [hc1]; cases z <;> rfl
  have HR := Lib.hid hr
  have HZ := Lib.hid hz
  have HQ := Lib.hid hq
  have E1 := Lib.hid e1
  have E2 := Lib.hid e2
  have HSQ := Lib.hid (sg_id iq)
  have LE := Lib.hid hle
  have EQ := Lib.hid heq
  clear hr hd0 hq iq hz e1 e2 hc1 hle heq
  have T0 := fun w => Floor_any n d w ix iy true HR.out
  rw [← HQ.out] at T0
  have T1 := Lib.hid T0
  clear T0
  go_enter Try.func3, Try.ntmps3
  go_wp2_with fail
  refine calls_w ?_
  intro W hW
  have kr : RVar W w.heap.size n d := by rw [hW]; exact Blk.new _ _ _
  have hb0 : Below w.heap.size w W := by rw [hW]; exact below_a1 _ _
  clear hW
  refine (T1.out _).mono ?_
  rintro e u1 ⟨rfl, hn1⟩
  replace kr : RVar u1 _ _ _ := kr.of hn1
  replace hb0 := hb0.trans (hn1.mono hb0.size)
  clear hn1
  have c := RVar.c kr
  have l0 := kr.lt
  go_wp2_with fail
  refine calls_w ?_
  intro W1 hW
  have kf : Var W1 u1.heap.size q := by rw [hW]; exact Blk.new _ _ _
  replace kr : RVar W1 w.heap.size n d := by rw [hW]; exact kr.alloc _
  replace hb0 : Below w.heap.size w W1 := by rw [hW]; exact hb0.alloc hb0.size _
  clear hW c l0
  refine (right_is n d _ iy true HR.out).mono ?_
  rintro e u2 ⟨rfl, hn1⟩
  replace kr : RVar u2 _ _ _ := kr.of hn1
  replace kf : Var u2 _ _ := kf.of hn1
  replace hb0 := hb0.trans (hn1.mono hb0.size)
  clear hn1
  have c := RVar.c kr
  go_wp2_with fail
  refine (ref_any n d _ ix iy).mono ?_
  rintro e u3 ⟨vx, rfl, hx, hn1⟩
  obtain ⟨n1, a1, l1, p1, n2, a2, l2, p2, rfl, hx1, hx2⟩ := hx
  replace kr : RVar u3 _ _ _ := kr.of hn1
  replace kf : Var u3 _ _ := kf.of hn1
  replace hb0 := hb0.trans (hn1.mono hb0.size)
  have X1 := Lib.hid hx1
  have X2 := Lib.hid hx2
  clear hn1 c hx1 hx2
  go_wp2_with fail
  refine name_world ?_
  intro W hW
  have kx : BRVar W u3.heap.size n1 a1 l1 p1 n2 a2 l2 p2 := by rw [hW]; exact Blk.new _ _ _
  replace kr : RVar W w.heap.size n d := by rw [hW]; exact kr.alloc _
  replace kf : Var W u1.heap.size q := by rw [hW]; exact kf.alloc _
  replace hb0 : Below w.heap.size w W := by rw [hW]; exact hb0.alloc hb0.size _
  replace X1 := Lib.hid (X1.out.of (show Below u3.heap.size u3 W by rw [hW]; exact below_a1 _ _))
  replace X2 := Lib.hid (X2.out.of (show Below u3.heap.size u3 W by rw [hW]; exact below_a1 _ _))
  clear hW
  have c1' := Var.c kf
  have c2 := BRVar.c kx
  have l1' := kf.lt
  have l2' := kx.lt
  have KR := Lib.hid kr
  have KF := Lib.hid kf
  have KX := Lib.hid kx
  clear kr kf kx
  refine wp_region_float1 6 5 [(true, 0), (true, 2), (true, 3), (false, 1), (false, 4)] (by kernel_rfl) (by kernel_rfl) (fun _ _ d _ _ => by cases d <;> exact Iff.rfl) rfl rfl rfl allocBig ?_
  have hb : Below W.heap.size W W.drew := (Below.refl _ _).drew
  iterate 3
    refine wpF_take rfl rfl ?_
    go_big_quiet_step (rfl)
    refine wpQuiet_nil ?_
  refine wpF_do rfl ?_
  intro w1 hg K hK
  replace hb := hb.trans (hg.mono hb.size)
  try replace HM := Lib.hid (HM.out.of hg)
  clear hg
  go_wp2_with ((first | (go_at_call 22; refine (Read_any q _).mono ?_; rintro e w5 ⟨vm, rfl, hbm, hn⟩; rw [HSQ.out] at hbm; have HM := Lib.hid hbm; have hvm := hbm.shape; clear hbm; obtain ⟨n5, a5, q5, e5, rfl⟩ := hvm) | (go_at_call 21; refine (bigMul_any _ _ q d 18 18 _ HM.out (X2.out.of hb) (by decide)).mono ?_; rintro e w6 ⟨vm, rfl, hbm, hn⟩; have HP := Lib.hid hbm; have hvm := hbm.shape; clear hbm HM; obtain ⟨n6, a6, q6, e6, rfl⟩ := hvm)))
  refine hK.out _ _ hn ?_
  replace hb := hb.trans (hn.mono hb.size)
  clear hK K
  clear hn
  refine wpF_do rfl ?_
  intro w1 hg K hK
  replace hb := hb.trans (hg.mono hb.size)
  try replace HM := Lib.hid (HM.out.of hg)
  clear hg
  go_wp2_with ((first | (go_at_call 22; refine (Read_any q _).mono ?_; rintro e w5 ⟨vm, rfl, hbm, hn⟩; rw [HSQ.out] at hbm; have HM := Lib.hid hbm; have hvm := hbm.shape; clear hbm; obtain ⟨n5, a5, q5, e5, rfl⟩ := hvm) | (go_at_call 21; refine (bigMul_any _ _ q d 18 18 _ HM.out (X2.out.of hb) (by decide)).mono ?_; rintro e w6 ⟨vm, rfl, hbm, hn⟩; have HP := Lib.hid hbm; have hvm := hbm.shape; clear hbm HM; obtain ⟨n6, a6, q6, e6, rfl⟩ := hvm)))
  refine hK.out _ _ hn ?_
  replace hb := hb.trans (hn.mono hb.size)
  clear hK K
  clear hn
  refine wpF_nil ?_
  clear hb
  intro w1 hg hb b1 lb1 nb1
  replace HP := Lib.hid (HP.out.of hg)
  clear hg
  simp only [Act.put, ptrTo, List.setIfInBounds_toArray, List.set_cons_succ, List.set_cons_zero]
  simp only [List.drop_succ_cons, List.drop_zero]
  have kn : BigVar w1 b1 false none 0 0 := nb1
  have hb1 : Below w.heap.size w w1 := hb0.trans (hb.mono hb0.size)
  have hge : w.heap.size ≤ b1 := Nat.le_trans hb0.size lb1
  have kr : RVar w1 w.heap.size n d := KR.out.of hb
  have kf : Var w1 u1.heap.size q := KF.out.of hb
  have kx : BRVar w1 u3.heap.size n1 a1 l1 p1 n2 a2 l2 p2 := KX.out.of hb
  replace X1 := Lib.hid (X1.out.of hb)
  replace X2 := Lib.hid (X2.out.of hb)
  have hr1 : w.heap.size ≠ b1 := by have := KR.out.lt; omega
  have hx1 : u3.heap.size ≠ b1 := by omega
  have cn := BigVar.c kn
  have fn := BigVar.f kn
  have cx := BRVar.c kx
  have hcn := cn.1
  have HC := Lib.hid hcn
  have KN := Lib.hid kn
  have KR1 := Lib.hid kr
  have KX1 := Lib.hid kx
  clear kn kr kf kx hcn nb1 hb0 hb c1' c2 l1' l2' KR KF KX
  go_wp2_with fail
  refine calls_w ?_
  intro V hV
  have kn : BigVar V b1 n6 a6 q6 e6 := by rw [hV]; exact (Blk.put KN.out 0 _).put 1 _
  have kr : RVar V w.heap.size n d := by rw [hV]; exact (KR1.out.set hr1 _ _ _).set hr1 _ _ _
  have kx : BRVar V u3.heap.size n1 a1 l1 p1 n2 a2 l2 p2 := by rw [hV]; exact (KX1.out.set hx1 _ _ _).set hx1 _ _ _
  replace X1 := Lib.hid (show Big V _ _ _ by rw [hV]; exact X1.out.set2 HC.out _ _)
  replace X2 := Lib.hid (show Big V _ _ _ by rw [hV]; exact X2.out.set2 HC.out _ _)
  replace HP := Lib.hid (show Big V _ _ _ by rw [hV]; exact HP.out.set2 HC.out _ _)
  replace hb1 : Below w.heap.size w V := by rw [hV]; exact set2_below hb1 hge _ _
  clear hV cn fn cx HC KN KR1 KX1 hr1 hx1 lb1 hge
  refine (bigAdd_any _ _ (q * d) d 36 _ HP.out (X2.out.mono (by decide)) (by decide)).mono ?_
  rintro e v1 ⟨vm, rfl, hbm, hn⟩
  have HS := Lib.hid hbm
  have hvm := hbm.shape
  replace kn : BigVar v1 _ _ _ _ _ := kn.of hn
  replace kr : RVar v1 _ _ _ := kr.of hn
  replace kx : BRVar v1 _ _ _ _ _ _ _ _ _ := kx.of hn
  replace X1 := Lib.hid (X1.out.of hn)
  replace HP := Lib.hid (HP.out.of hn)
  replace hb1 := hb1.trans (hn.mono hb1.size)
  clear hbm hn X2
  obtain ⟨n7, a7, q7, e7, rfl⟩ := hvm
  go_wp2_with fail
  refine name_world ?_
  intro W hW
  have h1 : Below v1.heap.size v1 W := by rw [hW]; exact below_a1 _ _
  have ks : BigVar W v1.heap.size n7 a7 q7 e7 := by rw [hW]; exact Blk.new _ _ _
  replace kn : BigVar W _ _ _ _ _ := kn.of h1
  replace kr : RVar W _ _ _ := kr.of h1
  replace kx : BRVar W _ _ _ _ _ _ _ _ _ := kx.of h1
  replace X1 := Lib.hid (X1.out.of h1)
  replace HP := Lib.hid (HP.out.of h1)
  replace HS := Lib.hid (HS.out.of h1)
  replace hb1 := hb1.trans (h1.mono hb1.size)
  clear hW h1
  have cn := BigVar.c kn
  have cs := BigVar.c ks
  have cx := BRVar.c kx
  have c := RVar.c kr
  have ln := kn.lt
  have ls := ks.lt
  have lx := kx.lt
  have lr := kr.lt
  have hle : decide (c1 ≤ 0) = true := LE.out
  have heq : (c1 == 0) = z := EQ.out
  clear kn ks kx kr
  refine wp_region_up W.heap.size 21 [(true, 0), (true, 1), (true, 2), (true, 3), (true, 4), (false, 5), (true, 6), (true, 7), (true, 8), (true, 9), (true, 10), (true, 11), (false, 12), (true, 13), (true, 14), (true, 15), (true, 16), (true, 18), (true, 19), (true, 20), (false, 17)] (by kernel_rfl) (by kernel_rfl) (fun _ _ d _ _ h => by cases d <;> exact h) ?_
  have hb : Below W.heap.size W W.drew := (Below.refl _ _).drew
  iterate 5
    refine wpS_takeL rfl rfl ?_
    go_big_quiet_step (rfl)
    refine wpQuiet_nil ?_
  refine wpS_doL rfl ?_
  intro K hK
  go_wp2_with ((first | (go_at_call 24; (with_reducible refine (bigCmp_is (.agg #[.bool n6, .slice a6 q6 e6]) _ _ _ 36 18 c1 E1.out _ (HP.out.of hb) (X1.out.of hb)).mono ?_); rintro e w6 ⟨rfl, hn⟩) | (go_at_call 24; (with_reducible refine (bigCmp_is (.agg #[.bool n7, .slice a7 q7 e7]) _ _ _ 37 18 1 E2.out _ (HS.out.of hb) (X1.out.of hb)).mono ?_); rintro e w6 ⟨rfl, hn⟩) | (go_at_call 18; refine (Whole_any n d _ ix iy true z HR.out HZ.out).mono ?_; rintro e w6 ⟨rfl, hn⟩) | (go_at_call 19; refine (awake_any _).mono ?_; rintro e w6 ⟨rfl, hn⟩)))
  try replace hb := hb.trans (hn.mono hb.size)
  refine hK.out _ _ (up_iff.2 hb) ?_
  clear hK K
  try clear hn
  iterate 6
    refine wpS_takeL rfl rfl ?_
    go_big_quiet_step (rfl)
    refine wpQuiet_nil ?_
  refine wpS_doL rfl ?_
  intro K hK
  go_wp2_with ((first | (go_at_call 24; (with_reducible refine (bigCmp_is (.agg #[.bool n6, .slice a6 q6 e6]) _ _ _ 36 18 c1 E1.out _ (HP.out.of hb) (X1.out.of hb)).mono ?_); rintro e w6 ⟨rfl, hn⟩) | (go_at_call 24; (with_reducible refine (bigCmp_is (.agg #[.bool n7, .slice a7 q7 e7]) _ _ _ 37 18 1 E2.out _ (HS.out.of hb) (X1.out.of hb)).mono ?_); rintro e w6 ⟨rfl, hn⟩) | (go_at_call 18; refine (Whole_any n d _ ix iy true z HR.out HZ.out).mono ?_; rintro e w6 ⟨rfl, hn⟩) | (go_at_call 19; refine (awake_any _).mono ?_; rintro e w6 ⟨rfl, hn⟩)))
  try replace hb := hb.trans (hn.mono hb.size)
  refine hK.out _ _ (up_iff.2 hb) ?_
  clear hK K
  try clear hn
  iterate 7
    refine wpS_takeL rfl rfl ?_
    go_big_quiet_step (rfl)
    refine wpQuiet_nil ?_
  refine wpS_doL rfl ?_
  intro K hK
  go_wp2_with ((first | (go_at_call 24; (with_reducible refine (bigCmp_is (.agg #[.bool n6, .slice a6 q6 e6]) _ _ _ 36 18 c1 E1.out _ (HP.out.of hb) (X1.out.of hb)).mono ?_); rintro e w6 ⟨rfl, hn⟩) | (go_at_call 24; (with_reducible refine (bigCmp_is (.agg #[.bool n7, .slice a7 q7 e7]) _ _ _ 37 18 1 E2.out _ (HS.out.of hb) (X1.out.of hb)).mono ?_); rintro e w6 ⟨rfl, hn⟩) | (go_at_call 18; refine (Whole_any n d _ ix iy true z HR.out HZ.out).mono ?_; rintro e w6 ⟨rfl, hn⟩) | (go_at_call 19; refine (awake_any _).mono ?_; rintro e w6 ⟨rfl, hn⟩)))
  try replace hb := hb.trans (hn.mono hb.size)
  refine hK.out _ _ (up_iff.2 hb) ?_
  clear hK K
  try clear hn
  refine wpS_nil ?_
  simp only [List.drop_succ_cons, List.drop_zero]
  have hb2 := hb1.trans (hb.mono hb1.size)
  clear cn cs cx c ln ls lx lr hb1
  go_wp2_with fail
  refine (bigCmp_is _ _ _ _ 36 18 c1 E1.out _ (HP.out.of hb) (X1.out.of hb)).mono ?_
  rintro e w7 ⟨rfl, hn⟩
  replace hb2 := hb2.trans (hn.mono hb2.size)
  clear hn hb
  go_wp2_with fail
  refine (awake_any _).mono ?_
  rintro e w8 ⟨rfl, hn⟩
  replace hb2 := hb2.trans (hn.mono hb2.size)
  clear hn
  go_wp2
  go_ret
  exact ⟨rfl, hb2⟩

theorem Floors_any (n d : Int) (w : World) (ix : InI n) (iy : InI d) :
    Calls Try.prog 3 #[rI n d] w fun e w' => e = .returned (.bool true) ∧ Below w.heap.size w w' := by
  cases h : decide (0 < d)
  · exact Floors_no n d w ix iy h
  · exact Floors_yes n d w ix iy h _ rfl
end Go.Proofs.Ytgddpkopbiendaa
