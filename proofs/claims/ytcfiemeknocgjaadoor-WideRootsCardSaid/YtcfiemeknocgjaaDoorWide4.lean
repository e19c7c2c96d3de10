/- The walks of package wide: Neg, Of, below. Conditions: none. -/
import Derived.Test.YtcfiemeknocgjaaDoorWide3
import Derived.Test.YtcfiemeknocgjaaDoorDig
import Derived.WalkSmall
namespace Go.Proofs.YtcfiemeknocgjaaDoor
open Go.RowKit

theorem Sub_any (x y : Int) (w : World) : Calls Tryd.prog 52 #[wI x, wI y] w fun e w' => e = .returned (.tuple #[wI (bif subB x y then x - y else 0), .bool (subB x y)]) ∧ Below w.heap.size w w' := Sub_go x y w _ _ _ rfl rfl rfl
theorem Add_any (x y : Int) (w : World) : Calls Tryd.prog 53 #[wI x, wI y] w fun e w' => e = .returned (.tuple #[wI (bif addB x y then x + y else 0), .bool (addB x y)]) ∧ Below w.heap.size w w' := Add_go x y w _ _ _ rfl rfl rfl

set_option maxRecDepth 100000 in
set_option maxHeartbeats 1000000 in
theorem Of_any (n : Int) (w : World) (h : In64 n) :
    Calls Tryd.prog 31 #[.int .i64 n] w fun e w' => e = .returned (wI n) ∧ Below w.heap.size w w' := by
  obtain ⟨h1, h2⟩ := h
  by_cases h0 : 0 ≤ n
  · obtain ⟨e0, e1, e2, e3⟩ := wd_of_nat h0 h2
    have e : wI n = .agg #[.int .u64 n, .int .u64 0, .int .u64 0, .int .u64 0] := by unfold wI wC; rw [e0, e1, e2, e3]
    rw [e]
    clear e e0 e1 e2 e3
    go_enter Tryd.func31, Tryd.ntmps31
    go_wp2
    simp [bodyPost, results, Tryd.results31, go_sem]
    exact ((Below.refl _ _).alloc (Nat.le_refl _) _).alloc (by simp) _
  · have hlt : n < 0 := by omega
    obtain ⟨e0, e1, e2, e3⟩ := wd_of_neg hlt h1
    have e : wI n = .agg #[.int .u64 (n % 18446744073709551616), .int .u64 18446744073709551615, .int .u64 18446744073709551615, .int .u64 18446744073709551615] := by unfold wI wC; rw [e0, e1, e2, e3]
    rw [e]
    clear e e0 e1 e2 e3
    go_enter Tryd.func31, Tryd.ntmps31
    go_wp2
    refine wp_loop_rounds 4 ?_
    iterate 4
      rw [rounds_succ]
      go_wp2
    simp [bodyPost, results, Tryd.results31, go_sem]
    exact ⟨by rw [IntKind.wrap_u64], ((Below.refl _ _).alloc (Nat.le_refl _) _).alloc (by simp) _⟩

set_option maxRecDepth 100000 in
set_option maxHeartbeats 1000000 in
theorem below_raw (a0 a1 a2 a3 b0 b1 b2 b3 : Int) (w : World) :
    Calls Tryd.prog 48 #[.agg #[.int .u64 a0, .int .u64 a1, .int .u64 a2, .int .u64 a3], .agg #[.int .u64 b0, .int .u64 b1, .int .u64 b2, .int .u64 b3]] w fun e w' =>
      e = .returned (.bool (lt4 a0 a1 a2 a3 b0 b1 b2 b3)) ∧ Below w.heap.size w w' := by
  have hfin : ∀ t, t = lt4 a0 a1 a2 a3 b0 b1 b2 b3 → Ending.returned (.bool t) = Ending.returned (.bool (lt4 a0 a1 a2 a3 b0 b1 b2 b3)) := fun t h => by rw [h]
  have HF := Lib.hid hfin
  clear hfin
  unfold lt4 at HF
  by_cases e3 : a3 = b3
  · subst e3
    by_cases e2 : a2 = b2
    · subst e2
      by_cases e1 : a1 = b1
      · subst e1
        by_cases e0 : a0 = b0
        · subst e0
          go_enter Tryd.func48, Tryd.ntmps48
          go_wp2
          refine wp_loop_rounds 5 ?_
          rw [rounds_succ]
          go_wp2
          go_quiet (fail)
          go_wp2
          rw [rounds_succ]
          go_wp2
          go_quiet (fail)
          go_wp2
          rw [rounds_succ]
          go_wp2
          go_quiet (fail)
          go_wp2
          rw [rounds_succ]
          go_wp2
          go_quiet (fail)
          go_wp2
          rw [rounds_succ]
          go_wp2
          go_ret
          refine ⟨HF.out _ (by simp), ?_⟩
          (repeat (first | exact Below.refl _ _ | refine below_drewN ?_ _ | refine Below.drew ?_ | refine Below.alloc ?_ (by simp) _ | refine Below.alloc ?_ (by simp; omega) _))
        · have d : (a0 != b0) = true := by simpa using e0
          clear e0
          go_enter Tryd.func48, Tryd.ntmps48
          go_wp2
          refine wp_loop_rounds 5 ?_
          rw [rounds_succ]
          go_wp2
          go_quiet (fail)
          go_wp2
          rw [rounds_succ]
          go_wp2
          go_quiet (fail)
          go_wp2
          rw [rounds_succ]
          go_wp2
          go_quiet (fail)
          go_wp2
          rw [rounds_succ]
          go_wp2
          go_quiet (fail)
          go_wp2
          go_quiet (fail)
          go_wp2
          go_ret
          refine ⟨HF.out _ (by simp [d]), ?_⟩
          (repeat (first | exact Below.refl _ _ | refine below_drewN ?_ _ | refine Below.drew ?_ | refine Below.alloc ?_ (by simp) _ | refine Below.alloc ?_ (by simp; omega) _))
      · have d : (a1 != b1) = true := by simpa using e1
        clear e1
        go_enter Tryd.func48, Tryd.ntmps48
        go_wp2
        refine wp_loop_rounds 5 ?_
        rw [rounds_succ]
        go_wp2
        go_quiet (fail)
        go_wp2
        rw [rounds_succ]
        go_wp2
        go_quiet (fail)
        go_wp2
        rw [rounds_succ]
        go_wp2
        go_quiet (fail)
        go_wp2
        go_quiet (fail)
        go_wp2
        go_ret
        refine ⟨HF.out _ (by simp [d]), ?_⟩
        (repeat (first | exact Below.refl _ _ | refine below_drewN ?_ _ | refine Below.drew ?_ | refine Below.alloc ?_ (by simp) _ | refine Below.alloc ?_ (by simp; omega) _))
    · have d : (a2 != b2) = true := by simpa using e2
      clear e2
      go_enter Tryd.func48, Tryd.ntmps48
      go_wp2
      refine wp_loop_rounds 5 ?_
      rw [rounds_succ]
      go_wp2
      go_quiet (fail)
      go_wp2
      rw [rounds_succ]
      go_wp2
      go_quiet (fail)
      go_wp2
      go_quiet (fail)
      go_wp2
      go_ret
      refine ⟨HF.out _ (by simp [d]), ?_⟩
      (repeat (first | exact Below.refl _ _ | refine below_drewN ?_ _ | refine Below.drew ?_ | refine Below.alloc ?_ (by simp) _ | refine Below.alloc ?_ (by simp; omega) _))
  · have d : (a3 != b3) = true := by simpa using e3
    clear e3
    go_enter Tryd.func48, Tryd.ntmps48
    go_wp2
    refine wp_loop_rounds 5 ?_
    rw [rounds_succ]
    go_wp2
    go_quiet (fail)
    go_wp2
    go_quiet (fail)
    go_wp2
    go_ret
    refine ⟨HF.out _ (by simp [d]), ?_⟩
    (repeat (first | exact Below.refl _ _ | refine below_drewN ?_ _ | refine Below.drew ?_ | refine Below.alloc ?_ (by simp) _ | refine Below.alloc ?_ (by simp; omega) _))

theorem below_any (x y : Int) (w : World) : Calls Tryd.prog 48 #[wI x, wI y] w fun e w' => e = .returned (.bool (ltU x y)) ∧ Below w.heap.size w w' := by
  rw [← lt4_wd]; exact below_raw _ _ _ _ _ _ _ _ w


set_option maxRecDepth 100000 in
theorem Compare_any (x y : Int) (w : World) :
    Calls Tryd.prog 54 #[.int .i64 x, .int .i64 y] w fun e w' => e = .returned (.int .i64 (cmpI x y)) ∧ Below w.heap.size w w' := by
  rcases Int.lt_trichotomy x y with h | h | h
  · rw [cmpI_lt h]
    go_enter Tryd.func54, Tryd.ntmps54
    go_wp2
    go_ret
    exact ⟨rfl, Below.refl _ _⟩
  · subst h
    rw [cmpI_eq]
    go_enter Tryd.func54, Tryd.ntmps54
    go_wp2
    go_ret
    exact ⟨rfl, Below.refl _ _⟩
  · rw [cmpI_gt h]
    go_enter Tryd.func54, Tryd.ntmps54
    go_wp2
    go_ret
    exact ⟨rfl, Below.refl _ _⟩

set_option maxRecDepth 100000 in
set_option maxHeartbeats 1000000 in
theorem Cmp_go (x y : Int) (w : World) (ix : InI x) (iy : InI y) (bx by' e l : Bool) (hx : ng x = bx) (hy : ng y = by') (he : eq4 (wd0 x) (wd1 x) (wd2 x) (wd3 x) (wd0 y) (wd1 y) (wd2 y) (wd3 y) = e) (hl : ltU x y = l) :
    Calls Tryd.prog 44 #[wI x, wI y] w fun e' w' => e' = .returned (.int .i64 (bif bx != by' then cmpI x.sign y.sign else bif e then 0 else bif l then -1 else 1)) ∧ Below w.heap.size w w' := by
  have X := Lib.hid ix
  have Y := Lib.hid iy
  clear ix iy
  go_enter Tryd.func44, Tryd.ntmps44
  go_wp2_with fail
  refine name_world ?_
  intro W hW
  have v0 : Var W w.heap.size x := by rw [hW]; exact (Blk.new _ _ _).alloc _
  have v1 : Var W (w.heap.size + 1) y := by rw [hW]; exact Blk.new1 _ _ _ _
  have hb0 : Below w.heap.size w W := by rw [hW]; exact ((Below.refl _ _).alloc (Nat.le_refl _) _).alloc (by simp) _
  clear hW
  have l0 := v0.lt
  have l1 := v1.lt
  have c0 := v0.c
  have c1 := v1.c
  have V0 := Lib.hid v0
  have V1 := Lib.hid v1
  clear v0 v1
  cases bx <;> cases by'
  case' false.true | true.false =>
    refine wp_region_up W.heap.size 3 [(true, 0), (true, 2), (false, 1)] (by kernel_rfl) (by kernel_rfl) (fun _ _ d _ _ h => by cases d <;> exact h) ?_
    have hb : Below W.heap.size W W.drew := (Below.refl _ _).drew
    iterate 2
      refine wpS_takeL rfl rfl ?_
      go_big_quiet_step (rfl)
      refine wpQuiet_nil ?_
    refine wpS_doL rfl ?_
    intro K hK
    go_wp2_with ((go_at_call 33; refine (negative_any _ _).mono ?_; rintro e w2 ⟨rfl, hn⟩))
    replace hb := hb.trans (hn.mono hb.size)
    refine hK.out _ _ (up_iff.2 hb) ?_
    clear hK K
    clear hn
    refine wpS_nil ?_
    simp only [List.drop_succ_cons, List.drop_zero]
    go_wp2_with (first | (go_at_call 33; refine (negative_any _ _).mono ?_; rintro e w2 ⟨rfl, hn⟩))
    replace hb := hb.trans (hn.mono hb.size)
    clear hn
    have v0 : Var _ _ _ := V0.out.of hb
    have v1 : Var _ _ _ := V1.out.of hb
    replace hb0 := hb0.trans (hb.mono hb0.size)
    clear V0 V1 hb l0 l1 c0 c1
    refine name_world ?_
    intro W hW
    rw [← hW] at v0 v1 hb0
    clear hW
    have l0 := v0.lt
    have l1 := v1.lt
    have c0 := v0.c
    have c1 := v1.c
    clear v0 v1
    have hX := X.out
    have hY := Y.out
    clear X Y
    have HX := Lib.hid hX
    have HY := Lib.hid hY
    clear hX hY
    refine wp_region_up W.heap.size 3 [(true, 0), (true, 2), (false, 1)] (by kernel_rfl) (by kernel_rfl) (fun _ _ d _ _ h => by cases d <;> exact h) ?_
    have hb : Below W.heap.size W W.drew := (Below.refl _ _).drew
    iterate 2
      refine wpS_takeL rfl rfl ?_
      go_big_quiet_step (rfl)
      refine wpQuiet_nil ?_
    refine wpS_doL rfl ?_
    intro K hK
    go_wp2_with ((go_at_call 10; refine (Sign_any x _ HX.out).mono ?_; rintro e' w2 ⟨rfl, hn⟩))
    replace hb := hb.trans (hn.mono hb.size)
    refine hK.out _ _ (up_iff.2 hb) ?_
    clear hK K
    clear hn
    refine wpS_nil ?_
    simp only [List.drop_succ_cons, List.drop_zero]
    go_wp2_with (go_at_call 10; refine (Sign_any y _ HY.out).mono ?_; rintro e' w2 ⟨rfl, hn⟩)
    have hb5 := hb.trans (hn.mono hb.size)
    clear hn
    go_wp2_with (go_at_call 54; refine (Compare_any _ _ _).mono ?_; rintro e' w2 ⟨rfl, hn⟩)
    replace hb5 := hb5.trans (hn.mono hb5.size)
    go_wp2
    go_ret
    exact ⟨rfl, hb0.trans (hb5.mono hb0.size)⟩
  all_goals
    cases e <;> cases l
    all_goals
      refine wp_region_up W.heap.size 3 [(true, 0), (true, 2), (false, 1)] (by kernel_rfl) (by kernel_rfl) (fun _ _ d _ _ h => by cases d <;> exact h) ?_
      have hb : Below W.heap.size W W.drew := (Below.refl _ _).drew
      iterate 2
        refine wpS_takeL rfl rfl ?_
        go_big_quiet_step (rfl)
        refine wpQuiet_nil ?_
      refine wpS_doL rfl ?_
      intro K hK
      go_wp2_with ((go_at_call 33; refine (negative_any _ _).mono ?_; rintro e w2 ⟨rfl, hn⟩))
      replace hb := hb.trans (hn.mono hb.size)
      refine hK.out _ _ (up_iff.2 hb) ?_
      clear hK K
      clear hn
      refine wpS_nil ?_
      simp only [List.drop_succ_cons, List.drop_zero]
      go_wp2_with (first | (go_at_call 33; refine (negative_any _ _).mono ?_; rintro e w2 ⟨rfl, hn⟩; replace hb := hb.trans (hn.mono hb.size); have c0' := Var.c (V0.out.of hb); have c1' := Var.c (V1.out.of hb); clear hn) | (go_at_call 48; refine (below_any _ _ _).mono ?_; rintro e' w2 ⟨rfl, hn⟩; replace hb := hb.trans (hn.mono hb.size)))
      go_ret
      exact ⟨rfl, hb0.trans (hb.mono hb0.size)⟩

theorem Cmp_any (x y : Int) (w : World) (ix : InI x) (iy : InI y) :
    Calls Tryd.prog 44 #[wI x, wI y] w fun e w' => e = .returned (.int .i64 (cmpI x y)) ∧ Below w.heap.size w w' := by
  refine (Cmp_go x y w ix iy _ _ _ _ rfl rfl rfl rfl).mono fun e w' ⟨he, hw⟩ => ⟨?_, hw⟩
  rw [he, ng_in ix, ng_in iy, eq4_wd]
  congr 2
  have sx := @Int.sign_eq_neg_one_of_neg x
  have sy := @Int.sign_eq_neg_one_of_neg y
  unfold ltU
  obtain ⟨h1, h2⟩ := ix
  obtain ⟨h3, h4⟩ := iy
  by_cases hx : x < 0 <;> by_cases hy : y < 0
  · simp only [hx, hy, bne_self_eq_false, cond_false, decide_true]
    unfold cmpI b255 b256 at *
    by_cases e : x = y
    · subst e; simp
    · have e' : ¬ x % 115792089237316195423570985008687907853269984665640564039457584007913129639936 = y % 115792089237316195423570985008687907853269984665640564039457584007913129639936 := by omega
      simp only [e', decide_false, cond_false, e]
      by_cases g : x < y
      · have g' : x % 115792089237316195423570985008687907853269984665640564039457584007913129639936 < y % 115792089237316195423570985008687907853269984665640564039457584007913129639936 := by omega
        simp [g, g']
      · have g' : ¬ x % 115792089237316195423570985008687907853269984665640564039457584007913129639936 < y % 115792089237316195423570985008687907853269984665640564039457584007913129639936 := by omega
        simp [g, g']
  · rw [sx hx]
    have : cmpI x y = -1 := cmpI_lt (by omega)
    rw [this]
    simp only [hx, hy, decide_true, decide_false]
    have : cmpI (-1) y.sign = -1 := cmpI_lt (by have := Int.sign_nonneg_iff.2 (show 0 ≤ y by omega); omega)
    simpa using this
  · rw [sy hy]
    have : cmpI x y = 1 := cmpI_gt (by omega)
    rw [this]
    simp only [hx, hy, decide_true, decide_false]
    have : cmpI x.sign (-1) = 1 := cmpI_gt (by have := Int.sign_nonneg_iff.2 (show 0 ≤ x by omega); omega)
    simpa using this
  · simp only [hx, hy, bne_self_eq_false, cond_false, decide_false]
    unfold cmpI b255 b256 at *
    by_cases e : x = y
    · subst e; simp
    · have e' : ¬ x % 115792089237316195423570985008687907853269984665640564039457584007913129639936 = y % 115792089237316195423570985008687907853269984665640564039457584007913129639936 := by omega
      simp only [e', decide_false, cond_false, e]
      by_cases g : x < y
      · have g' : x % 115792089237316195423570985008687907853269984665640564039457584007913129639936 < y % 115792089237316195423570985008687907853269984665640564039457584007913129639936 := by omega
        simp [g, g']
      · have g' : ¬ x % 115792089237316195423570985008687907853269984665640564039457584007913129639936 < y % 115792089237316195423570985008687907853269984665640564039457584007913129639936 := by omega
        simp [g, g']
end Go.Proofs.YtcfiemeknocgjaaDoor
