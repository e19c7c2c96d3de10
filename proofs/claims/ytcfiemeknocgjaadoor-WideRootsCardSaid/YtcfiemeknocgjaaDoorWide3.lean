/- The walks of package wide: Sub, Neg, Of, below. Conditions: none. -/
import Derived.Test.YtcfiemeknocgjaaDoorWide2
namespace Go.Proofs.YtcfiemeknocgjaaDoor
open Go.RowKit


/-- what Sub says: does the difference fit? -/
def subB (x y : Int) : Bool := (ng x == ng y) || (ng (x - y) == ng x)

set_option maxRecDepth 100000 in
set_option maxHeartbeats 2000000 in
theorem Sub_go (x y : Int) (w : World) (bx by' bs : Bool) (hx : ng x = bx) (hy : ng y = by') (hs : ng (x - y) = bs) :
    Calls Tryd.prog 52 #[wI x, wI y] w fun e w' => e = .returned (.tuple #[wI (bif subB x y then x - y else 0), .bool (subB x y)]) ∧ Below w.heap.size w w' := by
  have hfin : subB x y = ((bx == by') || (bs == bx)) := by simp [subB, hx, hy, hs]
  rw [hfin]
  clear hfin
  go_enter Tryd.func52, Tryd.ntmps52
  go_wp2_with fail
  refine name_world ?_
  intro W hW
  have v0 : Var W w.heap.size x := by rw [hW]; exact ((Blk.new _ _ _).alloc _).alloc _
  have v1 : Var W (w.heap.size + 1) y := by rw [hW]; exact ((Blk.new1 _ _ _ _).alloc _)
  have v2 : Var W (w.heap.size + 1 + 1) 0 := by rw [hW]; exact Blk.new2 _ _ _ _ _
  have hb0 : Below w.heap.size w W := by rw [hW]; exact (((Below.refl _ _).alloc (Nat.le_refl _) _).alloc (by simp) _).alloc (by simp; omega) _
  clear hW
  have l0 := v0.lt
  have l1 := v1.lt
  have c0 := v0.c
  have c1 := v1.c
  have V0 := Lib.hid v0
  have V1 := Lib.hid v1
  have V2 := Lib.hid v2
  clear v0 v1 v2
  refine wp_region_float1 5 4 [(true, 0), (true, 1), (false, 2), (false, 3)] (by kernel_rfl) (by kernel_rfl) (fun _ _ d _ _ => by cases d <;> exact Iff.rfl) rfl rfl rfl allocI ?_
  have hb : Below W.heap.size W W.drew := (Below.refl _ _).drew
  iterate 2
    refine wpF_take rfl rfl ?_
    go_big_quiet_step (rfl)
    refine wpQuiet_nil ?_
  refine wpF_do rfl ?_
  intro w1 hg K hK
  replace hb := hb.trans (hg.mono hb.size)
  clear hg
  go_wp2_with ((first | (go_at_call 35; refine (turned_any _ _).mono ?_; rintro e w2 ⟨rfl, hn⟩) | (go_at_call 34; refine (plus_any _ _ 1 _ (by decide) (by decide)).mono ?_; rintro e w2 ⟨rfl, hn⟩)))
  refine hK.out _ _ hn ?_
  replace hb := hb.trans (hn.mono hb.size)
  clear hK K
  clear hn
  refine wpF_do rfl ?_
  intro w1 hg K hK
  replace hb := hb.trans (hg.mono hb.size)
  clear hg
  go_wp2_with ((first | (go_at_call 35; refine (turned_any _ _).mono ?_; rintro e w2 ⟨rfl, hn⟩) | (go_at_call 34; refine (plus_any _ _ 1 _ (by decide) (by decide)).mono ?_; rintro e w2 ⟨rfl, hn⟩)))
  refine hK.out _ _ hn ?_
  replace hb := hb.trans (hn.mono hb.size)
  clear hK K
  clear hn
  refine wpF_nil ?_
  clear hb
  intro w1 hg hb b1 lb1 nb1
  clear hg
  simp only [Act.put, ptrTo, List.setIfInBounds_toArray, List.set_cons_succ, List.set_cons_zero]
  simp only [List.drop_succ_cons, List.drop_zero]
  have e0 : x + (-1 - y) + 1 = x - y := by omega
  rw [e0]
  clear e0
  have n3 : b1 < w1.heap.size := Blk.lt nb1
  have d0 : b1 ≠ w.heap.size := by omega
  have d1 : b1 ≠ w.heap.size + 1 := by omega
  have d2 : b1 ≠ w.heap.size + 1 + 1 := by have := Blk.lt V2.out; omega
  have v3 : Var w1 b1 0 := nb1
  have v0 : Var w1 w.heap.size x := V0.out.of hb
  have v1 : Var w1 (w.heap.size + 1) y := V1.out.of hb
  have v2 : Var w1 (w.heap.size + 1 + 1) 0 := V2.out.of hb
  replace hb0 := hb0.trans (hb.mono hb0.size)
  have lb := Nat.le_trans (Nat.le_of_lt l0) lb1
  have c3 := v3.c
  have f3 := v3.f
  have V3 := Lib.hid v3
  clear V0 V1 V2 nb1 hb c0 c1 l0 l1 v3
  go_wp2_with fail
  refine name_world ?_
  intro W' hW
  replace v3 : Var W' b1 (x - y) := by rw [hW]; exact Var.put4 V3.out _
  replace v0 : Var W' w.heap.size x := by rw [hW]; exact v0.set4 d0.symm _ _ _ _
  replace v1 : Var W' (w.heap.size + 1) y := by rw [hW]; exact v1.set4 d1.symm _ _ _ _
  replace v2 : Var W' (w.heap.size + 1 + 1) 0 := by rw [hW]; exact v2.set4 d2.symm _ _ _ _
  replace hb0 : Below w.heap.size w W' := by rw [hW]; exact below_set4 hb0 lb _ _ _ _
  clear hW c3 f3 V3 d0 d1 d2 lb1 lb n3
  have l0 := v0.lt
  have l1 := v1.lt
  have l3 := v3.lt
  have c0 := v0.c
  have c1 := v1.c
  have c3 := v3.c
  have V2 := Lib.hid v2
  clear v0 v1 v2 v3
  cases bx <;> cases by' <;> cases bs
  all_goals
    refine wp_region_up W'.heap.size 16 [(true, 0), (true, 1), (true, 3), (false, 2), (false, 4), (true, 5), (true, 6), (true, 7), (true, 9), (false, 8), (false, 10), (true, 11), (true, 12), (false, 13), (true, 14), (true, 15)] (by kernel_rfl) (by kernel_rfl) (fun _ _ d _ _ h => by cases d <;> exact h) ?_
    have hb : Below W'.heap.size W' W'.drew := (Below.refl _ _).drew
    iterate 3
      refine wpS_takeL rfl rfl ?_
      go_big_quiet_step (rfl)
      refine wpQuiet_nil ?_
    refine wpS_doL rfl ?_
    intro K hK
    go_wp2_with ((first | (go_at_call 33; refine (negative_any _ _).mono ?_; rintro e w2 ⟨rfl, hn⟩) | (go_at_call 38; refine (kept_any _ _ _).mono ?_; rintro e w2 ⟨rfl, hn⟩)))
    replace hb := hb.trans (hn.mono hb.size)
    refine hK.out _ _ (up_iff.2 hb) ?_
    clear hK K
    clear hn
    refine wpS_doL rfl ?_
    intro K hK
    go_wp2_with ((first | (go_at_call 33; refine (negative_any _ _).mono ?_; rintro e w2 ⟨rfl, hn⟩) | (go_at_call 38; refine (kept_any _ _ _).mono ?_; rintro e w2 ⟨rfl, hn⟩)))
    replace hb := hb.trans (hn.mono hb.size)
    refine hK.out _ _ (up_iff.2 hb) ?_
    clear hK K
    clear hn
    iterate 4
      refine wpS_takeL rfl rfl ?_
      go_big_quiet_step (rfl)
      refine wpQuiet_nil ?_
    refine wpS_doL rfl ?_
    intro K hK
    go_wp2_with ((first | (go_at_call 33; refine (negative_any _ _).mono ?_; rintro e w2 ⟨rfl, hn⟩) | (go_at_call 38; refine (kept_any _ _ _).mono ?_; rintro e w2 ⟨rfl, hn⟩)))
    try replace hb := hb.trans (hn.mono hb.size)
    refine hK.out _ _ (up_iff.2 hb) ?_
    clear hK K
    try clear hn
    refine wpS_doL rfl ?_
    intro K hK
    go_wp2_with ((first | (go_at_call 33; refine (negative_any _ _).mono ?_; rintro e w2 ⟨rfl, hn⟩) | (go_at_call 38; refine (kept_any _ _ _).mono ?_; rintro e w2 ⟨rfl, hn⟩)))
    try replace hb := hb.trans (hn.mono hb.size)
    refine hK.out _ _ (up_iff.2 hb) ?_
    clear hK K
    try clear hn
    iterate 2
      refine wpS_takeL rfl rfl ?_
      go_big_quiet_step (rfl)
      refine wpQuiet_nil ?_
    refine wpS_doL rfl ?_
    intro K hK
    go_wp2_with ((first | (go_at_call 33; refine (negative_any _ _).mono ?_; rintro e w2 ⟨rfl, hn⟩) | (go_at_call 38; refine (kept_any _ _ _).mono ?_; rintro e w2 ⟨rfl, hn⟩)))
    replace hb := hb.trans (hn.mono hb.size)
    refine hK.out _ _ (up_iff.2 hb) ?_
    clear hK K
    clear hn
    iterate 2
      refine wpS_takeL rfl rfl ?_
      go_big_quiet_step (rfl)
      refine wpQuiet_nil ?_
    refine wpS_nil ?_
    simp only [List.drop_succ_cons, List.drop_zero]
    have v2 : Var _ (w.heap.size + 1 + 1) 0 := V2.out.of hb
    have c2 := v2.c
    have f2 := v2.f
    clear V2 v2
    go_wp2
    simp [bodyPost, results, Tryd.results52, go_sem, c2, wd0_0, wd1_0, wd2_0, wd3_0]
    refine below_set4 (hb0.trans (hb.mono hb0.size)) ?_ _ _ _ _
    omega
end Go.Proofs.YtcfiemeknocgjaaDoor
