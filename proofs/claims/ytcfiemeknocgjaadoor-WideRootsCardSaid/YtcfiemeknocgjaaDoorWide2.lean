/- The walks of package wide: equality of two numbers, size, signed, Neg, Sub, Sign. Conditions: none. -/
import Derived.Test.YtcfiemeknocgjaaDoorWide1
namespace Go.Proofs.YtcfiemeknocgjaaDoor
open Go.RowKit

@[go_sem] theorem run_eqI (a0 a1 a2 a3 b0 b1 b2 b3 : Int) (w : World) :
    (Op.equalIn 10000 24 (.agg #[.int .u64 a0, .int .u64 a1, .int .u64 a2, .int .u64 a3]) (.agg #[.int .u64 b0, .int .u64 b1, .int .u64 b2, .int .u64 b3])).run Tryd.prog w = .ok (eq4 a0 a1 a2 a3 b0 b1 b2 b3) w := by
  have hu : Tryd.prog.underlying 24 = some (.array 4 22) := by kernel_rfl
  have hs : ∀ w, (sizeOf 22).run Tryd.prog w = .ok 1 w := fun w => by kernel_rfl
  have he : ∀ (a b : Int) w, (Op.equalIn 9999 22 (.int .u64 a) (.int .u64 b)).run Tryd.prog w = .ok (a == b) w := fun a b w => run_equalIn_int w 9998 _ .u64 .u64 a b (by kernel_rfl)
  have hp : ∀ (c : Array Value) (i : Nat) (v : Value) w, c[i]? = some v → (part 22 c i).run Tryd.prog w = .ok v w := by
    intro c i v w h
    have ha : (isAgg 22).run Tryd.prog w = .ok false w := by kernel_rfl
    unfold part
    simp [Sem.run_bind, ha, h]
  show (Op.equalIn (9999 + 1) _ _ _).run _ _ = _
  unfold Op.equalIn
  simp only [Sem.run_bind, run_underlying hu, Result.andThen_ok, hs]
  simp [List.range', he, hp, Sem.run_bind]
  unfold eq4
  by_cases h0 : a0 = b0 <;> by_cases h1 : a1 = b1 <;> by_cases h2 : a2 = b2 <;> by_cases h3 : a3 = b3 <;> simp [h0, h1, h2, h3]


set_option maxRecDepth 100000 in
theorem Sign_go (x : Int) (w : World) (b z : Bool) (hx : ng x = b) (hz : eq4 (wd0 x) (wd1 x) (wd2 x) (wd3 x) 0 0 0 0 = z) :
    Calls Tryd.prog 10 #[wI x] w fun e w' => e = .returned (.int .i64 (bif b then -1 else bif z then 0 else 1)) ∧ Below w.heap.size w w' := by
  go_enter Tryd.func10, Tryd.ntmps10
  go_wp2_with fail
  refine calls_w ?_
  intro W0 hW0
  have v0 : Var W0 w.heap.size x := by rw [hW0]; exact Blk.new _ _ _
  have hb0 : Below w.heap.size w W0 := by rw [hW0]; exact ((Below.refl _ _).alloc (Nat.le_refl _) _)
  clear hW0
  refine (negative_is x _ hx _).mono ?_
  rintro e w1 ⟨rfl, hb1⟩
  replace hb0 := hb0.trans (hb1.mono hb0.size)
  have c0 := Var.c (v0.of hb1)
  clear v0 hb1 hx
  cases b <;> cases z
  all_goals
    go_wp2
    go_ret
    exact ⟨rfl, hb0⟩

theorem Sign_any (x : Int) (w : World) (h : InI x) :
    Calls Tryd.prog 10 #[wI x] w fun e w' => e = .returned (.int .i64 x.sign) ∧ Below w.heap.size w w' := by
  refine (Sign_go x w _ _ rfl rfl).mono fun e w' ⟨he, hw⟩ => ⟨?_, hw⟩
  rw [he, ng_in h, eq4_0]
  congr 2
  obtain ⟨h1, h2⟩ := h
  rcases Int.lt_trichotomy x 0 with hx | hx | hx
  · simp [hx, Int.sign_eq_neg_one_of_neg hx]
  · subst hx; rfl
  · have e1 : ¬ x < 0 := by omega
    have e2 : ¬ x % b256 = 0 := by unfold b255 b256 at *; omega
    simp [e1, e2, Int.sign_eq_one_of_pos hx]

set_option maxRecDepth 100000 in
set_option maxHeartbeats 1000000 in
theorem size_go (x : Int) (w : World) (b : Bool) (hx : ng x = b) :
    Calls Tryd.prog 28 #[wI x] w fun e w' => e = .returned (wI (bif b then -x else x)) ∧ Below w.heap.size w w' := by
  go_enter Tryd.func28, Tryd.ntmps28
  go_wp2_with fail
  refine calls_w ?_
  intro W0 hW0
  have v0 : Var W0 w.heap.size x := by rw [hW0]; exact (Blk.new _ _ _).alloc _
  have v1 : Var W0 (w.heap.size + 1) 0 := by rw [hW0]; exact Blk.new1 _ _ _ _
  have hb0 : Below w.heap.size w W0 := by rw [hW0]; exact ((Below.refl _ _).alloc (Nat.le_refl _) _).alloc (by simp) _
  clear hW0
  cases b
  · refine (negative_is x _ hx _).mono ?_
    rintro e w1 ⟨rfl, hb1⟩
    replace hb0 := hb0.trans (hb1.mono hb0.size)
    have c0 := Var.c (v0.of hb1)
    have c1 := Var.c (v1.of hb1)
    have f1 := Var.f (v1.of hb1)
    clear v0 v1 hb1 hx
    go_wp2
    simp [bodyPost, results, Tryd.results28, go_sem, c1]
    refine below_set4 hb0 ?_ _ _ _ _
    omega
  · refine (negative_is x _ hx _).mono ?_
    rintro e w1 ⟨rfl, hb1⟩
    replace hb0 := hb0.trans (hb1.mono hb0.size)
    replace v1 : Var _ _ _ := v1.of hb1
    have c0 := Var.c (v0.of hb1)
    clear v0 hb1 hx
    have V1 := Lib.hid v1
    clear v1
    go_wp2_with fail
    refine (turned_any x _).mono ?_
    rintro e w2 ⟨rfl, hn⟩
    go_wp2_with fail
    refine (plus_any 0 (-1 - x) 1 _ (by decide) (by decide)).mono ?_
    rintro e w3 ⟨rfl, hn2⟩
    replace hn := hn.trans (hn2.mono hn.size)
    have c1 := Var.c (V1.out.of hn)
    have f1 := Var.f (V1.out.of hn)
    clear V1 hn2 c0
    have e0 : 0 + (-1 - x) + 1 = -x := by omega
    rw [e0]
    clear e0
    go_wp2
    simp [bodyPost, results, Tryd.results28, go_sem, c1]
    refine below_set4 (hb0.trans (hn.mono hb0.size)) ?_ _ _ _ _
    omega
theorem size_any (x : Int) (w : World) : Calls Tryd.prog 28 #[wI x] w fun e w' => e = .returned (wI (sz x)) ∧ Below w.heap.size w w' := size_go x w _ rfl

/-- what signed says: is there a number of this size, below 0 or not? -/
def sgB (s : Int) (b : Bool) : Bool := bif b then ng (-s) || eq4 (wd0 (-s)) (wd1 (-s)) (wd2 (-s)) (wd3 (-s)) 0 0 0 0 else !ng s
def sgV (s : Int) (b : Bool) : Int := bif b then -s else s

set_option maxRecDepth 100000 in
set_option maxHeartbeats 1000000 in
theorem signed_pos (s : Int) (w : World) (k : Bool) (hk : ng s = k) :
    Calls Tryd.prog 30 #[wI s, .bool false] w fun e w' => e = .returned (.tuple #[wI (bif !k then s else 0), .bool (!k)]) ∧ Below w.heap.size w w' := by
  go_enter Tryd.func30, Tryd.ntmps30
  go_wp2_with fail
  refine name_world ?_
  intro W hW
  have v0 : Var W w.heap.size s := by rw [hW]; exact (Blk.new _ _ _).alloc _
  have v1 : Var W (w.heap.size + 1) 0 := by rw [hW]; exact Blk.new1 _ _ _ _
  have hb0 : Below w.heap.size w W := by rw [hW]; exact ((Below.refl _ _).alloc (Nat.le_refl _) _).alloc (by simp) _
  clear hW
  have l0 := v0.lt
  have c0 := v0.c
  have V1 := Lib.hid v1
  clear v0 v1
  cases k
  all_goals
    refine wp_region_up W.heap.size 7 [(true, 0), (true, 1), (false, 2), (true, 3), (false, 4), (true, 5), (true, 6)] (by kernel_rfl) (by kernel_rfl) (fun _ _ d _ _ h => by cases d <;> exact h) ?_
    have hb : Below W.heap.size W W.drew := (Below.refl _ _).drew
    iterate 2
      refine wpS_takeL rfl rfl ?_
      go_big_quiet_step (rfl)
      refine wpQuiet_nil ?_
    refine wpS_doL rfl ?_
    intro K hK
    go_wp2_with ((first | (go_at_call 33; refine (negative_any _ _).mono ?_; rintro e w2 ⟨rfl, hn⟩) | (go_at_call 38; refine (kept_any _ _ _).mono ?_; rintro e w2 ⟨rfl, hn⟩)))
    replace hb := hb.trans (hn.mono hb.size)
    refine hK.out _ _ (up_iff.2 hb) ?_
    clear hK K
    clear hn
    refine wpS_takeL rfl rfl ?_
    go_big_quiet_step (rfl)
    refine wpQuiet_nil ?_
    refine wpS_doL rfl ?_
    intro K hK
    go_wp2_with ((first | (go_at_call 33; refine (negative_any _ _).mono ?_; rintro e w2 ⟨rfl, hn⟩) | (go_at_call 38; refine (kept_any _ _ _).mono ?_; rintro e w2 ⟨rfl, hn⟩)))
    replace hb := hb.trans (hn.mono hb.size)
    refine hK.out _ _ (up_iff.2 hb) ?_
    clear hK K
    clear hn
    iterate 2
      refine wpS_takeL rfl rfl ?_
      go_big_quiet_step (rfl)
      refine wpQuiet_nil ?_
    refine wpS_nil ?_
    simp only [List.drop_succ_cons, List.drop_zero]
    have v1 : Var _ _ _ := V1.out.of hb
    have c1 := v1.c
    have f1 := v1.f
    clear V1 v1
    go_wp2
    simp [bodyPost, results, Tryd.results30, go_sem, c1, wd0_0, wd1_0, wd2_0, wd3_0]
    refine below_set4 (hb0.trans (hb.mono hb0.size)) ?_ _ _ _ _
    omega

set_option maxRecDepth 100000 in
set_option maxHeartbeats 1000000 in
theorem signed_neg (s : Int) (w : World) (k z : Bool) (hk : ng (-s) = k) (hz : eq4 (wd0 (-s)) (wd1 (-s)) (wd2 (-s)) (wd3 (-s)) 0 0 0 0 = z) :
    Calls Tryd.prog 30 #[wI s, .bool true] w fun e w' => e = .returned (.tuple #[wI (bif k || z then -s else 0), .bool (k || z)]) ∧ Below w.heap.size w w' := by
  go_enter Tryd.func30, Tryd.ntmps30
  go_wp2_with fail
  refine calls_w ?_
  intro W0 hW0
  have v0 : Var W0 w.heap.size s := by rw [hW0]; exact (Blk.new _ _ _).alloc _
  have v1 : Var W0 (w.heap.size + 1) 0 := by rw [hW0]; exact Blk.new1 _ _ _ _
  have hb0 : Below w.heap.size w W0 := by rw [hW0]; exact ((Below.refl _ _).alloc (Nat.le_refl _) _).alloc (by simp) _
  clear hW0 v0
  refine (turned_any s _).mono ?_
  rintro e w2 ⟨rfl, hn⟩
  go_wp2_with fail
  refine (plus_any 0 (-1 - s) 1 _ (by decide) (by decide)).mono ?_
  rintro e w3 ⟨rfl, hn2⟩
  replace hn := hn.trans (hn2.mono hn.size)
  replace v1 := v1.of hn
  replace hb0 := hb0.trans (hn.mono hb0.size)
  clear hn2 hn
  have e0 : 0 + (-1 - s) + 1 = -s := by omega
  rw [e0]
  clear e0
  go_wp2_with fail
  refine name_world ?_
  intro W hW
  have v2 : Var W w3.heap.size (-s) := by rw [hW]; exact Blk.new _ _ _
  replace v1 : Var W (w.heap.size + 1) 0 := by rw [hW]; exact v1.alloc _
  replace hb0 : Below w.heap.size w W := by rw [hW]; exact hb0.alloc hb0.size _
  clear hW
  have l2 := v2.lt
  have c2 := v2.c
  have V1 := Lib.hid v1
  clear v1 v2
  cases k <;> cases z
  all_goals
    refine wp_region_up W.heap.size 11 [(true, 0), (true, 1), (false, 2), (true, 3), (true, 4), (true, 5), (true, 6), (true, 7), (false, 8), (true, 9), (true, 10)] (by kernel_rfl) (by kernel_rfl) (fun _ _ d _ _ h => by cases d <;> exact h) ?_
    have hb : Below W.heap.size W W.drew := (Below.refl _ _).drew
    iterate 2
      refine wpS_takeL rfl rfl ?_
      go_big_quiet_step (rfl)
      refine wpQuiet_nil ?_
    refine wpS_doL rfl ?_
    intro K hK
    go_wp2_with ((first | (go_at_call 33; refine (negative_any _ _).mono ?_; rintro e w2 ⟨rfl, hn⟩) | (go_at_call 38; refine (kept_any _ _ _).mono ?_; rintro e w2 ⟨rfl, hn⟩)))
    replace hb := hb.trans (hn.mono hb.size)
    refine hK.out _ _ (up_iff.2 hb) ?_
    clear hK K
    clear hn
    iterate 5
      refine wpS_takeL rfl rfl ?_
      go_big_quiet_step (rfl)
      refine wpQuiet_nil ?_
    refine wpS_doL rfl ?_
    intro K hK
    go_wp2_with ((first | (go_at_call 33; refine (negative_any _ _).mono ?_; rintro e w2 ⟨rfl, hn⟩) | (go_at_call 38; refine (kept_any _ _ _).mono ?_; rintro e w2 ⟨rfl, hn⟩)))
    replace hb := hb.trans (hn.mono hb.size)
    refine hK.out _ _ (up_iff.2 hb) ?_
    clear hK K
    clear hn
    iterate 2
      refine wpS_takeL rfl rfl ?_
      go_big_quiet_step (rfl)
      refine wpQuiet_nil ?_
    refine wpS_nil ?_
    simp only [List.drop_succ_cons, List.drop_zero]
    have v1 : Var _ _ _ := V1.out.of hb
    have c1 := v1.c
    have f1 := v1.f
    clear V1 v1
    go_wp2
    simp [bodyPost, results, Tryd.results30, go_sem, c1, wd0_0, wd1_0, wd2_0, wd3_0]
    refine below_set4 (hb0.trans (hb.mono hb0.size)) ?_ _ _ _ _
    omega

theorem signed_any (s : Int) (b : Bool) (w : World) :
    Calls Tryd.prog 30 #[wI s, .bool b] w fun e w' => e = .returned (.tuple #[wI (bif sgB s b then sgV s b else 0), .bool (sgB s b)]) ∧ Below w.heap.size w w' := by
  cases b
  · exact signed_pos s w _ rfl
  · exact signed_neg s w _ _ rfl rfl
end Go.Proofs.YtcfiemeknocgjaaDoor
