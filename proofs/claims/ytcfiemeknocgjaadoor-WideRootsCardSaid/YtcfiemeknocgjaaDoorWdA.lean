/- gromaref01's Fits, and small contracts, at the Door seat. Conditions: none. -/
import Derived.Test.YtcfiemeknocgjaaDoorMul2
import Derived.Test.YtcfiemeknocgjaaDoorFmt4
namespace Go.Proofs.YtcfiemeknocgjaaDoor
open Go.RowKit

theorem allocBig : AllocRuns Tryd.prog 34 #[.bool false, .slice none 0 0] := fun w => by kernel_rfl
theorem bigCmp_is (v v' : Value) (n m : Int) (L L' : Nat) (c : Int) (hc : cmpI n m = c) (w : World) (h : Big w v n L) (h' : Big w v' m L') :
    Calls Tryd.prog 20 #[v, v'] w fun e w' => e = .returned (.int .i64 c) ∧ Below w.heap.size w w' := hc ▸ bigCmp_any v v' n m L L' w h h'
abbrev BigVar (w : World) (b : Nat) (neg : Bool) (a : Option Addr) (l c : Nat) : Prop := Blk w b #[.bool neg, .slice a l c] 34
theorem BigVar.c {w : World} {b : Nat} {neg : Bool} {a : Option Addr} {l c : Nat} (h : BigVar w b neg a l c) : w.cell? ⟨b, 0, none⟩ = some (.bool neg) ∧ w.cell? ⟨b, 1, none⟩ = some (.slice a l c) := ⟨h.cell 0, h.cell 1⟩
theorem BigVar.f {w : World} {b : Nat} {neg : Bool} {a : Option Addr} {l c : Nat} (h : BigVar w b neg a l c) : w.frozen? ⟨b, 0, none⟩ = false ∧ w.frozen? ⟨b, 1, none⟩ = false := ⟨h.free 0, h.free 1⟩
theorem bigSign_is (v : Value) (n : Int) (L : Nat) (s : Int) (hs : n.sign = s) (w : World) (h : Big w v n L) :
    Calls Tryd.prog 17 #[v] w fun e w' => e = .returned (.int .i64 s) ∧ Below w.heap.size w w' := hs ▸ bigSign_any v n L w h
theorem Read_in (x : Int) (hx : sg x = x) (w : World) : Calls Tryd.prog 16 #[wI x] w (GivesBig w x 18) := by
  have := Read_any x w
  rw [hx] at this
  exact this
theorem p255 : (2 : Int) ^ 255 = b255 := by decide
theorem Sign_is (x : Int) (s : Int) (hs : x.sign = s) (w : World) (h : InI x) :
    Calls Tryd.prog 10 #[wI x] w fun e w' => e = .returned (.int .i64 s) ∧ Below w.heap.size w w' := hs ▸ Sign_any x w h
theorem cmp_ge {n m : Int} : decide (0 ≤ cmpI n m) = decide (m ≤ n) := by
  rcases Int.lt_trichotomy n m with h | h | h
  · rw [cmpI_lt h, Bool.eq_iff_iff, decide_eq_true_iff, decide_eq_true_iff]; omega
  · subst h; rw [cmpI_eq, Bool.eq_iff_iff, decide_eq_true_iff, decide_eq_true_iff]; omega
  · rw [cmpI_gt h, Bool.eq_iff_iff, decide_eq_true_iff, decide_eq_true_iff]; omega
theorem cmp_lt' {n m : Int} : decide (cmpI n m < 0) = decide (n < m) := by
  rcases Int.lt_trichotomy n m with h | h | h
  · rw [cmpI_lt h, Bool.eq_iff_iff, decide_eq_true_iff, decide_eq_true_iff]; omega
  · subst h; rw [cmpI_eq, Bool.eq_iff_iff, decide_eq_true_iff, decide_eq_true_iff]; omega
  · rw [cmpI_gt h, Bool.eq_iff_iff, decide_eq_true_iff, decide_eq_true_iff]; omega

set_option maxRecDepth 100000 in
set_option maxHeartbeats 2000000 in
theorem Fits_go (v : Value) (n : Int) (L : Nat) (w : World) (h : Big w v n L) (g1 g2 : Int) (hg1 : cmpI n (-b255) = g1) (hg2 : cmpI n b255 = g2) (x y : Bool) (hx : decide (0 ≤ g1) = x) (hy : decide (g2 < 0) = y) :
    Calls Tryd.prog 15 #[v] w fun e w' => e = .returned (.bool (x && y)) ∧ Below w.heap.size w w' := by
  have hv := h.shape
  obtain ⟨n1, a1, q1, e1, rfl⟩ := hv
  have HA := Lib.hid h
  have G1 := Lib.hid hg1
  have G2 := Lib.hid hg2
  clear h hg1 hg2
  go_enter Tryd.func15, Tryd.ntmps15
  go_wp2_with fail
  refine calls_w ?_
  intro W hW
  have k0 : BigVar W w.heap.size n1 a1 q1 e1 := by rw [hW]; exact Blk.new _ _ _
  have hb0 : Below w.heap.size w W := by rw [hW]; exact below_a1 _ _
  clear hW
  refine (Power_any 255 _ (by decide)).mono ?_
  rintro e u1 ⟨vm, rfl, hbm, hn⟩
  replace k0 : BigVar u1 _ _ _ _ _ := k0.of hn
  replace hb0 := hb0.trans (hn.mono hb0.size)
  rw [p255] at hbm
  have HP := Lib.hid hbm
  have hvm := hbm.shape
  clear hbm hn
  obtain ⟨n2, a2, q2, e2, rfl⟩ := hvm
  go_wp2_with fail
  refine name_world ?_
  intro V hV
  have hv : Below u1.heap.size u1 V := by rw [hV]; exact below_a1 _ _
  have kp : BigVar V u1.heap.size n2 a2 q2 e2 := by rw [hV]; exact Blk.new _ _ _
  replace k0 : BigVar V _ _ _ _ _ := k0.of hv
  replace HP := Lib.hid (HP.out.of hv)
  replace hb0 := hb0.trans (hv.mono hb0.size)
  have HV := Lib.hid (HA.out.of hb0)
  have c0 := BigVar.c k0
  have cp := BigVar.c kp
  have l0 := k0.lt
  have lp := kp.lt
  clear hV hv k0 kp HA
  cases x
  · skip
    refine wp_region_up V.heap.size 8 [(true, 0), (true, 1), (false, 2), (false, 3), (true, 4), (true, 5), (true, 6), (true, 7)] (by kernel_rfl) (by kernel_rfl) (fun _ _ d _ _ h => by cases d <;> exact h) ?_
    have hb : Below V.heap.size V V.drew := (Below.refl _ _).drew
    iterate 2
      refine wpS_takeL rfl rfl ?_
      go_big_quiet_step (rfl)
      refine wpQuiet_nil ?_
    refine wpS_doL rfl ?_
    intro K hK
    go_wp2_with ((first | (go_at_call 18; refine (Minus_any _ _ _ _ (HP.out.of hb)).mono ?_; rintro e w2 ⟨vm, rfl, hbm, hn⟩; have HM := Lib.hid hbm; have hvm := hbm.shape; clear hbm; obtain ⟨n3, a3, q3, e3, rfl⟩ := hvm) | (go_at_call 20; refine (bigCmp_is _ _ n (-b255) L _ g1 G1.out _ (HV.out.of hb) HM.out).mono ?_; rintro e w3 ⟨rfl, hn⟩)))
    replace hb := hb.trans (hn.mono hb.size)
    refine hK.out _ _ (up_iff.2 hb) ?_
    clear hK K
    clear hn
    refine wpS_doL rfl ?_
    intro K hK
    go_wp2_with ((first | (go_at_call 18; refine (Minus_any _ _ _ _ (HP.out.of hb)).mono ?_; rintro e w2 ⟨vm, rfl, hbm, hn⟩; have HM := Lib.hid hbm; have hvm := hbm.shape; clear hbm; obtain ⟨n3, a3, q3, e3, rfl⟩ := hvm) | (go_at_call 20; refine (bigCmp_is _ _ n (-b255) L _ g1 G1.out _ (HV.out.of hb) HM.out).mono ?_; rintro e w3 ⟨rfl, hn⟩)))
    replace hb := hb.trans (hn.mono hb.size)
    refine hK.out _ _ (up_iff.2 hb) ?_
    clear hK K
    clear hn
    iterate 4
      refine wpS_takeL rfl rfl ?_
      go_big_quiet_step (rfl)
      refine wpQuiet_nil ?_
    refine wpS_nil ?_
    simp only [List.drop_succ_cons, List.drop_zero]
    have hb2 := hb0.trans (hb.mono hb0.size)
    clear c0 cp l0 lp hb
    go_wp2
    go_ret
    exact ⟨rfl, hb2⟩
  · skip
    refine wp_region_up V.heap.size 8 [(true, 0), (true, 1), (false, 2), (false, 3), (true, 4), (true, 5), (true, 6), (true, 7)] (by kernel_rfl) (by kernel_rfl) (fun _ _ d _ _ h => by cases d <;> exact h) ?_
    have hb : Below V.heap.size V V.drew := (Below.refl _ _).drew
    iterate 2
      refine wpS_takeL rfl rfl ?_
      go_big_quiet_step (rfl)
      refine wpQuiet_nil ?_
    refine wpS_doL rfl ?_
    intro K hK
    go_wp2_with ((first | (go_at_call 18; refine (Minus_any _ _ _ _ (HP.out.of hb)).mono ?_; rintro e w2 ⟨vm, rfl, hbm, hn⟩; have HM := Lib.hid hbm; have hvm := hbm.shape; clear hbm; obtain ⟨n3, a3, q3, e3, rfl⟩ := hvm) | (go_at_call 20; refine (bigCmp_is _ _ n (-b255) L _ g1 G1.out _ (HV.out.of hb) HM.out).mono ?_; rintro e w3 ⟨rfl, hn⟩)))
    replace hb := hb.trans (hn.mono hb.size)
    refine hK.out _ _ (up_iff.2 hb) ?_
    clear hK K
    clear hn
    refine wpS_doL rfl ?_
    intro K hK
    go_wp2_with ((first | (go_at_call 18; refine (Minus_any _ _ _ _ (HP.out.of hb)).mono ?_; rintro e w2 ⟨vm, rfl, hbm, hn⟩; have HM := Lib.hid hbm; have hvm := hbm.shape; clear hbm; obtain ⟨n3, a3, q3, e3, rfl⟩ := hvm) | (go_at_call 20; refine (bigCmp_is _ _ n (-b255) L _ g1 G1.out _ (HV.out.of hb) HM.out).mono ?_; rintro e w3 ⟨rfl, hn⟩)))
    replace hb := hb.trans (hn.mono hb.size)
    refine hK.out _ _ (up_iff.2 hb) ?_
    clear hK K
    clear hn
    iterate 4
      refine wpS_takeL rfl rfl ?_
      go_big_quiet_step (rfl)
      refine wpQuiet_nil ?_
    refine wpS_nil ?_
    simp only [List.drop_succ_cons, List.drop_zero]
    have hb2 := hb0.trans (hb.mono hb0.size)
    clear c0 cp l0 lp hb0
    go_wp2_with fail
    refine (bigCmp_is _ _ n b255 L _ g2 G2.out _ (HV.out.of hb) (HP.out.of hb)).mono ?_
    rintro e w4 ⟨rfl, hn⟩
    replace hb2 := hb2.trans (hn.mono hb2.size)
    clear hn hb
    go_wp2
    go_ret
    exact ⟨rfl, hb2⟩
theorem Fits_is (v : Value) (n : Int) (L : Nat) (b : Bool) (hb : okI n = b) (w : World) (h : Big w v n L) :
    Calls Tryd.prog 15 #[v] w fun e w' => e = .returned (.bool b) ∧ Below w.heap.size w w' := by
  have T := Fits_go v n L w h _ _ rfl rfl _ _ cmp_ge cmp_lt'
  have e : (decide (-b255 ≤ n) && decide (n < b255)) = b := by rw [← hb]; unfold okI; rw [Bool.eq_iff_iff, Bool.and_eq_true, decide_eq_true_iff, decide_eq_true_iff, decide_eq_true_iff]; rfl
  rw [e] at T
  exact T

end Go.Proofs.YtcfiemeknocgjaaDoor
