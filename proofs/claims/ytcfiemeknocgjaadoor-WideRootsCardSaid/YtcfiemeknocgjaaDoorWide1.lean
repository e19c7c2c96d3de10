/- The walks of package wide: turned, kept, Add. Conditions: none. -/
import Derived.Test.YtcfiemeknocgjaaDoorWalk1
import Derived.Test.YtcfiemeknocgjaaDoorRegF
import Derived.Lib.Hide
namespace Go.Proofs.YtcfiemeknocgjaaDoor
open Go.RowKit

theorem xor_max_nat (n : Nat) (h : n < 18446744073709551616) : 18446744073709551615 ^^^ n = 18446744073709551615 - n := by
  have e : (BitVec.allOnes 64 ^^^ BitVec.ofNat 64 n).toNat = (~~~ (BitVec.ofNat 64 n)).toNat := by
    rw [BitVec.allOnes_xor]
  rw [BitVec.toNat_xor, BitVec.toNat_not, BitVec.toNat_allOnes, BitVec.toNat_ofNat, Nat.mod_eq_of_lt (by simpa using h)] at e
  simpa using e
theorem xor_max (a : Int) (h : Wd a) : bits .xor .u64 IntKind.u64.max a = 18446744073709551615 - a := by
  obtain ⟨h0, h1⟩ := h
  have e : IntKind.u64.max = 18446744073709551615 := by decide
  rw [e, u64_xor _ _ (by decide) (by decide) h0 h1]
  have := xor_max_nat a.toNat (by omega)
  have e2 : Int.toNat 18446744073709551615 = 18446744073709551615 := by decide
  rw [e2, this]; omega

theorem allocI : AllocRuns Tryd.prog 24 (wC 0) := fun w => by kernel_rfl

theorem negative_any (x : Int) (w : World) : Calls Tryd.prog 33 #[wI x] w fun e w' => e = .returned (.bool (ng x)) ∧ Below w.heap.size w w' :=
  negative_raw _ _ _ _ w (wd3_Wd x)
theorem negative_is (x : Int) (b : Bool) (h : ng x = b) (w : World) : Calls Tryd.prog 33 #[wI x] w fun e w' => e = .returned (.bool b) ∧ Below w.heap.size w w' := h ▸ negative_any x w

theorem kept_any (x : Int) (b : Bool) (w : World) : Calls Tryd.prog 38 #[wI x, .bool b] w fun e w' => e = .returned (.tuple #[wI (bif b then x else 0), .bool b]) ∧ Below w.heap.size w w' := by
  cases b
  · go_enter Tryd.func38, Tryd.ntmps38
    go_wp2
    simp [bodyPost, results, Tryd.results38, go_sem, wd0_0, wd1_0, wd2_0, wd3_0]
    exact ((Below.refl _ _).alloc (Nat.le_refl _) _).alloc (by simp) _
  · go_enter Tryd.func38, Tryd.ntmps38
    go_wp2
    simp [bodyPost, results, Tryd.results38, go_sem]
    exact ((Below.refl _ _).alloc (Nat.le_refl _) _).alloc (by simp) _

set_option maxRecDepth 100000 in
theorem turned_raw (a0 a1 a2 a3 : Int) (w : World) (h0 : Wd a0) (h1 : Wd a1) (h2 : Wd a2) (h3 : Wd a3) :
    Calls Tryd.prog 35 #[.agg #[.int .u64 a0, .int .u64 a1, .int .u64 a2, .int .u64 a3]] w fun e w' =>
      e = .returned (.agg #[.int .u64 (18446744073709551615 - a0), .int .u64 (18446744073709551615 - a1), .int .u64 (18446744073709551615 - a2), .int .u64 (18446744073709551615 - a3)]) ∧ Below w.heap.size w w' := by
  have x0 := xor_max a0 h0
  have x1 := xor_max a1 h1
  have x2 := xor_max a2 h2
  have x3 := xor_max a3 h3
  clear h0 h1 h2 h3
  go_enter Tryd.func35, Tryd.ntmps35
  go_wp2
  refine wp_loop_rounds 5 ?_
  iterate 5
    rw [rounds_succ]
    go_wp2
  simp [bodyPost, results, Tryd.results35, go_sem]
  exact ((Below.refl _ _).alloc (Nat.le_refl _) _).alloc (by simp) _

theorem turned_any (x : Int) (w : World) :
    Calls Tryd.prog 35 #[wI x] w fun e w' => e = .returned (wI (-1 - x)) ∧ Below w.heap.size w w' := by
  refine (turned_raw _ _ _ _ w (wd0_Wd x) (wd1_Wd x) (wd2_Wd x) (wd3_Wd x)).mono fun e w' ⟨he, hw⟩ => ⟨?_, hw⟩
  rw [he, ← not_wd0, ← not_wd1, ← not_wd2, ← not_wd3]


/-- what Add says: does the sum fit? -/
def addB (x y : Int) : Bool := (ng x != ng y) || (ng (x + y) == ng x)

set_option maxRecDepth 100000 in
set_option maxHeartbeats 1000000 in
theorem Add_go (x y : Int) (w : World) (bx by' bs : Bool) (hx : ng x = bx) (hy : ng y = by') (hs : ng (x + y) = bs) :
    Calls Tryd.prog 53 #[wI x, wI y] w fun e w' => e = .returned (.tuple #[wI (bif addB x y then x + y else 0), .bool (addB x y)]) ∧ Below w.heap.size w w' := by
  have hfin : addB x y = ((bx != by') || (bs == bx)) := by simp [addB, hx, hy, hs]
  rw [hfin]
  clear hfin
  go_enter Tryd.func53, Tryd.ntmps53
  go_wp2_with fail
  refine calls_w ?_
  intro W0 hW0
  have v0 : Var W0 w.heap.size x := by rw [hW0]; exact ((Blk.new _ _ _).alloc _).alloc _
  have v1 : Var W0 (w.heap.size + 1) y := by rw [hW0]; exact ((Blk.new1 _ _ _ _).alloc _)
  have v2 : Var W0 (w.heap.size + 1 + 1) 0 := by rw [hW0]; exact Blk.new2 _ _ _ _ _
  have hb0 : Below w.heap.size w W0 := by rw [hW0]; exact (((Below.refl _ _).alloc (Nat.le_refl _) _).alloc (by simp) _).alloc (by simp; omega) _
  clear hW0
  refine (plus_any x y 0 _ (by decide) (by decide)).mono ?_
  rintro e w1 ⟨rfl, hb1⟩
  rw [Int.add_zero]
  replace v0 := v0.of hb1
  replace v1 := v1.of hb1
  replace v2 := v2.of hb1
  replace hb0 := hb0.trans (hb1.mono hb0.size)
  clear hb1
  go_wp2_with fail
  refine name_world ?_
  intro W hW
  have v3 : Var W w1.heap.size (x + y) := by rw [hW]; exact Blk.new _ _ _
  replace v0 : Var W w.heap.size x := by rw [hW]; exact v0.alloc _
  replace v1 : Var W (w.heap.size + 1) y := by rw [hW]; exact v1.alloc _
  replace v2 : Var W (w.heap.size + 1 + 1) 0 := by rw [hW]; exact v2.alloc _
  replace hb0 : Below w.heap.size w W := by rw [hW]; exact hb0.alloc hb0.size _
  clear hW
  have l0 := v0.lt
  have l1 := v1.lt
  have l3 := v3.lt
  have c0 := v0.c
  have c1 := v1.c
  have c3 := v3.c
  have V2 := Lib.hid v2
  clear v0 v1 v2 v3
  cases bx <;> cases by' <;> cases bs
  all_goals
    refine wp_region_up W.heap.size 16 [(true, 0), (true, 1), (true, 3), (false, 2), (false, 4), (true, 5), (true, 6), (true, 7), (true, 9), (false, 8), (false, 10), (true, 11), (true, 12), (false, 13), (true, 14), (true, 15)] (by kernel_rfl) (by kernel_rfl) (fun _ _ d _ _ h => by cases d <;> exact h) ?_
    have hb : Below W.heap.size W W.drew := (Below.refl _ _).drew
    iterate 3
      refine wpS_takeL rfl rfl ?_
      go_big_quiet_step (rfl)
      refine wpQuiet_nil ?_
    refine wpS_doL rfl ?_
    intro K hK
    go_wp2_with ((first | (go_at_call 33; refine (negative_any _ _).mono ?_; rintro e w2 ⟨rfl, hn⟩) | (go_at_call 38; refine (kept_any _ _ _).mono ?_; rintro e w2 ⟨rfl, hn⟩)))
    replace hb := hb.trans (hn.mono hb.size)
    refine hK.out _ _ (up_iff.2 hb) ?_
    clear hK K
    clear hn
    refine wpS_doL rfl ?_
    intro K hK
    go_wp2_with ((first | (go_at_call 33; refine (negative_any _ _).mono ?_; rintro e w2 ⟨rfl, hn⟩) | (go_at_call 38; refine (kept_any _ _ _).mono ?_; rintro e w2 ⟨rfl, hn⟩)))
    replace hb := hb.trans (hn.mono hb.size)
    refine hK.out _ _ (up_iff.2 hb) ?_
    clear hK K
    clear hn
    iterate 4
      refine wpS_takeL rfl rfl ?_
      go_big_quiet_step (rfl)
      refine wpQuiet_nil ?_
    refine wpS_doL rfl ?_
    intro K hK
    go_wp2_with ((first | (go_at_call 33; refine (negative_any _ _).mono ?_; rintro e w2 ⟨rfl, hn⟩) | (go_at_call 38; refine (kept_any _ _ _).mono ?_; rintro e w2 ⟨rfl, hn⟩)))
    try replace hb := hb.trans (hn.mono hb.size)
    refine hK.out _ _ (up_iff.2 hb) ?_
    clear hK K
    try clear hn
    refine wpS_doL rfl ?_
    intro K hK
    go_wp2_with ((first | (go_at_call 33; refine (negative_any _ _).mono ?_; rintro e w2 ⟨rfl, hn⟩) | (go_at_call 38; refine (kept_any _ _ _).mono ?_; rintro e w2 ⟨rfl, hn⟩)))
    try replace hb := hb.trans (hn.mono hb.size)
    refine hK.out _ _ (up_iff.2 hb) ?_
    clear hK K
    try clear hn
    iterate 2
      refine wpS_takeL rfl rfl ?_
      go_big_quiet_step (rfl)
      refine wpQuiet_nil ?_
    refine wpS_doL rfl ?_
    intro K hK
    go_wp2_with ((first | (go_at_call 33; refine (negative_any _ _).mono ?_; rintro e w2 ⟨rfl, hn⟩) | (go_at_call 38; refine (kept_any _ _ _).mono ?_; rintro e w2 ⟨rfl, hn⟩)))
    replace hb := hb.trans (hn.mono hb.size)
    refine hK.out _ _ (up_iff.2 hb) ?_
    clear hK K
    clear hn
    iterate 2
      refine wpS_takeL rfl rfl ?_
      go_big_quiet_step (rfl)
      refine wpQuiet_nil ?_
    refine wpS_nil ?_
    simp only [List.drop_succ_cons, List.drop_zero]
    have v2 : Var _ (w.heap.size + 1 + 1) 0 := V2.out.of hb
    have c2 := v2.c
    have f2 := v2.f
    clear V2 v2
    go_wp2
    simp [bodyPost, results, Tryd.results53, go_sem, c2, wd0_0, wd1_0, wd2_0, wd3_0]
    refine below_set4 (hb0.trans (hb.mono hb0.size)) ?_ _ _ _ _
    omega
end Go.Proofs.YtcfiemeknocgjaaDoor
