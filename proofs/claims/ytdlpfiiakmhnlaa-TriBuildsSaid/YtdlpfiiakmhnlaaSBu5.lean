/- My texts TrDc, TrDd, TrAg, TrDe, TrDg, TrBw, TrBa, TrBb, joined: what the last one needs of them. Conditions: as each lemma says. -/
import Derived.Test.YtdlpfiiakmhnlaaSBu4
import Derived.KernelRfl
import Derived.StillTail
import Derived.OrdersHeld
import Derived.Deep.Quiet
import Derived.Below
import Derived.WalkKit
import Derived.Test.YtdlpfiiakmhnlaaProg
import Derived.WalkSpells
import Derived.StillTactics
import Derived.Laws.Pointers
import Derived.Deep.RegionHeld3
import Derived.RowKit3
import Derived.Deep.QuietTactic
import Derived.BigQuiet
import Derived.BigRegion
import Derived.Lib.Hide
import Derived.WalkSmall
import Derived.Laws.BitsAllLaws
import Derived.IntWalk
import Derived.Deep.OwnRows
import Derived.Deep.LoopGhost
import Derived.Shelf.Bits.Mul64
import Derived.ProofKit
import Derived.OpenShut
import Derived.ShutString
import Derived.ChangeOld
import Derived.Lib.SmallJoins
import Derived.Laws.IdiomArrays
import Derived.Laws.CopyOwn
import Derived.Laws.AppendOwn
import Derived.Deep.DeepAppendRoom
import Derived.Lib.AppendZerosOnto
import Derived.Lib.Overlaps
import Derived.Deep.RegionLaw
import Derived.Shelf.RegionOpenPlain
import Derived.Deep.RegionWith
import Derived.Sort.LoopGhostIn
import Derived.RangeFuncNested
import Derived.RangeFuncBound
import Derived.RangeFuncCalls
import Derived.RangeFuncLeaves
import Derived.OwnWalk
import Derived.OwnWalkIn
import Derived.TacticsInMore
import Derived.LoopNIn
import Derived.LoopIn
import Derived.Deep.DeepFit
import Derived.Deep.DeepCutAuto
import Derived.Shelf.Abstract
import Derived.Shelf.RegionOpen
import Derived.Maps.OwnIn
import Derived.WalkMore
import Derived.Deep.SlicePairs
namespace Go.Proofs.Ytdlpfiiakmhnlaa
open Go.RowKit

theorem way_c (ax ay bx b_y cx cy r : Int) (h : way ax ay bx b_y cx cy = r) : r = -1 ∨ r = 0 ∨ r = 1 := h ▸ way_cases _ _ _ _ _ _
theorem four_new (w V : World) (c0 c1 c2 c3 : Array Value) (t0 t1 t2 t3 : TypeId) (hV : V = (((w.alloc (.cells c0 t0)).alloc (.cells c1 t1)).alloc (.cells c2 t2)).alloc (.cells c3 t3)) :
    Below w.heap.size w V ∧ Blk V w.heap.size c0 t0 ∧ Blk V (w.heap.size + 1) c1 t1 ∧ Blk V (w.heap.size + 2) c2 t2 ∧ Blk V (w.heap.size + 3) c3 t3 := by
  have e1 := (Blk.new (w.alloc (.cells c0 t0)) c1 t1)
  have e2 := (Blk.new ((w.alloc (.cells c0 t0)).alloc (.cells c1 t1)) c2 t2)
  have e3 := (Blk.new (((w.alloc (.cells c0 t0)).alloc (.cells c1 t1)).alloc (.cells c2 t2)) c3 t3)
  simp only [World.size_alloc] at e1 e2 e3
  subst hV
  refine ⟨?_, (((Blk.new w c0 t0).of (below_a1 _ _)).of (below_a1 _ _)).of (below_a1 _ _), (e1.of (below_a1 _ _)).of (below_a1 _ _), e2.of (below_a1 _ _), e3⟩
  exact ((((below_a1 w _).trans ((below_a1 _ _).mono (by simp))).trans ((below_a1 _ _).mono (by simp; omega))).trans ((below_a1 _ _).mono (by simp; omega)))
set_option maxRecDepth 100000 in
set_option maxHeartbeats 8000000 in
theorem Facing_is (ax ay bx b_y cx cy dx dy r1 r2 r3 r4 : Int) (h1 : way ax ay bx b_y cx cy = r1) (h2 : way ax ay bx b_y dx dy = r2) (h3 : way cx cy dx dy ax ay = r3) (h4 : way cx cy dx dy bx b_y = r4) (w : World) :
    Calls Try.prog 37 #[pI ax ay, pI bx b_y, pI cx cy, pI dx dy] w fun e w' => ∃ b, e = .returned (.bool b) ∧ (b = true ↔ r1 * r2 < 0 ∧ r3 * r4 < 0) ∧ Below w.heap.size w w' := by
  have hr1 := way_c _ _ _ _ _ _ _ h1
  have hr2 := way_c _ _ _ _ _ _ _ h2
  have hr3 := way_c _ _ _ _ _ _ _ h3
  have hr4 := way_c _ _ _ _ _ _ _ h4
  have H1 := Lib.hid h1
  have H2 := Lib.hid h2
  have H3 := Lib.hid h3
  have H4 := Lib.hid h4
  clear h1 h2 h3 h4
  go_enter Try.func37, Try.ntmps37
  go_wp2_with fail
  refine name_world ?_
  intro V hV
  obtain ⟨hb0, k0, k1, k2, k3⟩ := four_new _ _ _ _ _ _ _ _ _ _ hV
  obtain ⟨ab, eab⟩ : ∃ b, w.heap.size = b := ⟨_, rfl⟩
  obtain ⟨bb, ebb⟩ : ∃ b, w.heap.size + 1 = b := ⟨_, rfl⟩
  obtain ⟨cb, ecb⟩ : ∃ b, w.heap.size + 1 + 1 = b := ⟨_, rfl⟩
  obtain ⟨db, edb⟩ : ∃ b, w.heap.size + 1 + 1 + 1 = b := ⟨_, rfl⟩
  rw [show w.heap.size + 3 = db from edb] at k3
  rw [show w.heap.size + 2 = cb from ecb] at k2
  rw [ebb] at k1
  rw [eab] at k0
  rw [edb, ecb, ebb, eab]
  have a0 : ∀ u : UpTo V.heap.size V, u.w.cell? ⟨ab, 0, none⟩ = some (.int .i64 ax) := fun u => (k0.of u.below).cell 0
  have a1 : ∀ u : UpTo V.heap.size V, u.w.cell? ⟨ab, 1, none⟩ = some (.int .i64 ay) := fun u => (k0.of u.below).cell 1
  have b0 : ∀ u : UpTo V.heap.size V, u.w.cell? ⟨bb, 0, none⟩ = some (.int .i64 bx) := fun u => (k1.of u.below).cell 0
  have b1 : ∀ u : UpTo V.heap.size V, u.w.cell? ⟨bb, 1, none⟩ = some (.int .i64 b_y) := fun u => (k1.of u.below).cell 1
  have c0 : ∀ u : UpTo V.heap.size V, u.w.cell? ⟨cb, 0, none⟩ = some (.int .i64 cx) := fun u => (k2.of u.below).cell 0
  have c1 : ∀ u : UpTo V.heap.size V, u.w.cell? ⟨cb, 1, none⟩ = some (.int .i64 cy) := fun u => (k2.of u.below).cell 1
  have d0 : ∀ u : UpTo V.heap.size V, u.w.cell? ⟨db, 0, none⟩ = some (.int .i64 dx) := fun u => (k3.of u.below).cell 0
  have d1 : ∀ u : UpTo V.heap.size V, u.w.cell? ⟨db, 1, none⟩ = some (.int .i64 dy) := fun u => (k3.of u.below).cell 1
  have la := k0.lt
  have lb := k1.lt
  have lc := k2.lt
  have ld := k3.lt
  have HB := Lib.hid hb0
  have hws : w.heap.size = ab := eab
  clear hV hb0 k0 k1 k2 k3 eab ebb ecb edb
  rcases hr1 with rfl | rfl | rfl <;> rcases hr2 with rfl | rfl | rfl
  · skip
    refine wp_region_up V.heap.size 18 [(true, 0), (true, 1), (true, 2), (true, 4), (true, 5), (true, 6), (false, 3), (false, 7), (true, 8), (true, 9), (true, 10), (true, 11), (true, 12), (true, 13), (true, 15), (true, 16), (true, 17), (false, 14)] (by kernel_rfl) (by kernel_rfl) (fun _ _ d _ _ h => by cases d <;> exact h) ?_
    have hb : Below V.heap.size V V.drew := (Below.refl _ _).drew
    iterate 6
      refine wpS_takeL rfl rfl ?_
      go_big_quiet_step (rfl)
      refine wpQuiet_nil ?_
    refine wpS_doL rfl ?_
    intro K hK
    go_wp2_with ((go_at_call 46; (first | (with_reducible refine (rWy_is ax ay bx b_y cx cy _ H1.out _).mono ?_) | (with_reducible refine (rWy_is ax ay bx b_y dx dy _ H2.out _).mono ?_) | (with_reducible refine (rWy_is cx cy dx dy ax ay _ H3.out _).mono ?_) | (with_reducible refine (rWy_is cx cy dx dy bx b_y _ H4.out _).mono ?_)); rintro e w2 ⟨rfl, hn⟩))
    replace hb := hb.trans (hn.mono hb.size)
    refine hK.out _ _ (up_iff.2 hb) ?_
    clear hK K
    clear hn
    refine wpS_doL rfl ?_
    intro K hK
    go_wp2_with ((go_at_call 46; (first | (with_reducible refine (rWy_is ax ay bx b_y cx cy _ H1.out _).mono ?_) | (with_reducible refine (rWy_is ax ay bx b_y dx dy _ H2.out _).mono ?_) | (with_reducible refine (rWy_is cx cy dx dy ax ay _ H3.out _).mono ?_) | (with_reducible refine (rWy_is cx cy dx dy bx b_y _ H4.out _).mono ?_)); rintro e w2 ⟨rfl, hn⟩))
    replace hb := hb.trans (hn.mono hb.size)
    refine hK.out _ _ (up_iff.2 hb) ?_
    clear hK K
    clear hn
    iterate 9
      refine wpS_takeL rfl rfl ?_
      go_big_quiet_step (rfl)
      refine wpQuiet_nil ?_
    refine wpS_doL rfl ?_
    intro K hK
    go_wp2_with ((go_at_call 46; (first | (with_reducible refine (rWy_is ax ay bx b_y cx cy _ H1.out _).mono ?_) | (with_reducible refine (rWy_is ax ay bx b_y dx dy _ H2.out _).mono ?_) | (with_reducible refine (rWy_is cx cy dx dy ax ay _ H3.out _).mono ?_) | (with_reducible refine (rWy_is cx cy dx dy bx b_y _ H4.out _).mono ?_)); rintro e w2 ⟨rfl, hn⟩))
    try replace hb := hb.trans (hn.mono hb.size)
    refine hK.out _ _ (up_iff.2 hb) ?_
    clear hK K
    try clear hn
    refine wpS_nil ?_
    simp only [List.drop_succ_cons, List.drop_zero]
    go_wp2
    go_ret
    exact ⟨_, rfl, ⟨fun h => (by cases h), fun h => absurd h.1 (by decide)⟩, HB.out.trans (hb.mono HB.out.size)⟩
  · skip
    refine wp_region_up V.heap.size 18 [(true, 0), (true, 1), (true, 2), (true, 4), (true, 5), (true, 6), (false, 3), (false, 7), (true, 8), (true, 9), (true, 10), (true, 11), (true, 12), (true, 13), (true, 15), (true, 16), (true, 17), (false, 14)] (by kernel_rfl) (by kernel_rfl) (fun _ _ d _ _ h => by cases d <;> exact h) ?_
    have hb : Below V.heap.size V V.drew := (Below.refl _ _).drew
    iterate 6
      refine wpS_takeL rfl rfl ?_
      go_big_quiet_step (rfl)
      refine wpQuiet_nil ?_
    refine wpS_doL rfl ?_
    intro K hK
    go_wp2_with ((go_at_call 46; (first | (with_reducible refine (rWy_is ax ay bx b_y cx cy _ H1.out _).mono ?_) | (with_reducible refine (rWy_is ax ay bx b_y dx dy _ H2.out _).mono ?_) | (with_reducible refine (rWy_is cx cy dx dy ax ay _ H3.out _).mono ?_) | (with_reducible refine (rWy_is cx cy dx dy bx b_y _ H4.out _).mono ?_)); rintro e w2 ⟨rfl, hn⟩))
    replace hb := hb.trans (hn.mono hb.size)
    refine hK.out _ _ (up_iff.2 hb) ?_
    clear hK K
    clear hn
    refine wpS_doL rfl ?_
    intro K hK
    go_wp2_with ((go_at_call 46; (first | (with_reducible refine (rWy_is ax ay bx b_y cx cy _ H1.out _).mono ?_) | (with_reducible refine (rWy_is ax ay bx b_y dx dy _ H2.out _).mono ?_) | (with_reducible refine (rWy_is cx cy dx dy ax ay _ H3.out _).mono ?_) | (with_reducible refine (rWy_is cx cy dx dy bx b_y _ H4.out _).mono ?_)); rintro e w2 ⟨rfl, hn⟩))
    replace hb := hb.trans (hn.mono hb.size)
    refine hK.out _ _ (up_iff.2 hb) ?_
    clear hK K
    clear hn
    iterate 9
      refine wpS_takeL rfl rfl ?_
      go_big_quiet_step (rfl)
      refine wpQuiet_nil ?_
    refine wpS_doL rfl ?_
    intro K hK
    go_wp2_with ((go_at_call 46; (first | (with_reducible refine (rWy_is ax ay bx b_y cx cy _ H1.out _).mono ?_) | (with_reducible refine (rWy_is ax ay bx b_y dx dy _ H2.out _).mono ?_) | (with_reducible refine (rWy_is cx cy dx dy ax ay _ H3.out _).mono ?_) | (with_reducible refine (rWy_is cx cy dx dy bx b_y _ H4.out _).mono ?_)); rintro e w2 ⟨rfl, hn⟩))
    try replace hb := hb.trans (hn.mono hb.size)
    refine hK.out _ _ (up_iff.2 hb) ?_
    clear hK K
    try clear hn
    refine wpS_nil ?_
    simp only [List.drop_succ_cons, List.drop_zero]
    go_wp2
    go_ret
    exact ⟨_, rfl, ⟨fun h => (by cases h), fun h => absurd h.1 (by decide)⟩, HB.out.trans (hb.mono HB.out.size)⟩
  · rcases hr3 with rfl | rfl | rfl <;> rcases hr4 with rfl | rfl | rfl
    · skip
      refine wp_region_up V.heap.size 18 [(true, 0), (true, 1), (true, 2), (true, 4), (true, 5), (true, 6), (false, 3), (false, 7), (true, 8), (true, 9), (true, 10), (true, 11), (true, 12), (true, 13), (true, 15), (true, 16), (true, 17), (false, 14)] (by kernel_rfl) (by kernel_rfl) (fun _ _ d _ _ h => by cases d <;> exact h) ?_
      have hb : Below V.heap.size V V.drew := (Below.refl _ _).drew
      iterate 6
        refine wpS_takeL rfl rfl ?_
        go_big_quiet_step (rfl)
        refine wpQuiet_nil ?_
      refine wpS_doL rfl ?_
      intro K hK
      go_wp2_with ((go_at_call 46; (first | (with_reducible refine (rWy_is ax ay bx b_y cx cy _ H1.out _).mono ?_) | (with_reducible refine (rWy_is ax ay bx b_y dx dy _ H2.out _).mono ?_) | (with_reducible refine (rWy_is cx cy dx dy ax ay _ H3.out _).mono ?_) | (with_reducible refine (rWy_is cx cy dx dy bx b_y _ H4.out _).mono ?_)); rintro e w2 ⟨rfl, hn⟩))
      replace hb := hb.trans (hn.mono hb.size)
      refine hK.out _ _ (up_iff.2 hb) ?_
      clear hK K
      clear hn
      refine wpS_doL rfl ?_
      intro K hK
      go_wp2_with ((go_at_call 46; (first | (with_reducible refine (rWy_is ax ay bx b_y cx cy _ H1.out _).mono ?_) | (with_reducible refine (rWy_is ax ay bx b_y dx dy _ H2.out _).mono ?_) | (with_reducible refine (rWy_is cx cy dx dy ax ay _ H3.out _).mono ?_) | (with_reducible refine (rWy_is cx cy dx dy bx b_y _ H4.out _).mono ?_)); rintro e w2 ⟨rfl, hn⟩))
      replace hb := hb.trans (hn.mono hb.size)
      refine hK.out _ _ (up_iff.2 hb) ?_
      clear hK K
      clear hn
      iterate 9
        refine wpS_takeL rfl rfl ?_
        go_big_quiet_step (rfl)
        refine wpQuiet_nil ?_
      refine wpS_doL rfl ?_
      intro K hK
      go_wp2_with ((go_at_call 46; (first | (with_reducible refine (rWy_is ax ay bx b_y cx cy _ H1.out _).mono ?_) | (with_reducible refine (rWy_is ax ay bx b_y dx dy _ H2.out _).mono ?_) | (with_reducible refine (rWy_is cx cy dx dy ax ay _ H3.out _).mono ?_) | (with_reducible refine (rWy_is cx cy dx dy bx b_y _ H4.out _).mono ?_)); rintro e w2 ⟨rfl, hn⟩))
      try replace hb := hb.trans (hn.mono hb.size)
      refine hK.out _ _ (up_iff.2 hb) ?_
      clear hK K
      try clear hn
      refine wpS_nil ?_
      simp only [List.drop_succ_cons, List.drop_zero]
      go_wp2_with fail
      refine (rWy_is cx cy dx dy bx b_y _ H4.out _).mono ?_
      rintro e w3 ⟨rfl, hn3⟩
      have hb3 := hb.trans (hn3.mono hb.size)
      clear hn3 hb
      go_wp2
      go_ret
      exact ⟨_, rfl, by decide, HB.out.trans (hb3.mono HB.out.size)⟩
    · skip
      refine wp_region_up V.heap.size 18 [(true, 0), (true, 1), (true, 2), (true, 4), (true, 5), (true, 6), (false, 3), (false, 7), (true, 8), (true, 9), (true, 10), (true, 11), (true, 12), (true, 13), (true, 15), (true, 16), (true, 17), (false, 14)] (by kernel_rfl) (by kernel_rfl) (fun _ _ d _ _ h => by cases d <;> exact h) ?_
      have hb : Below V.heap.size V V.drew := (Below.refl _ _).drew
      iterate 6
        refine wpS_takeL rfl rfl ?_
        go_big_quiet_step (rfl)
        refine wpQuiet_nil ?_
      refine wpS_doL rfl ?_
      intro K hK
      go_wp2_with ((go_at_call 46; (first | (with_reducible refine (rWy_is ax ay bx b_y cx cy _ H1.out _).mono ?_) | (with_reducible refine (rWy_is ax ay bx b_y dx dy _ H2.out _).mono ?_) | (with_reducible refine (rWy_is cx cy dx dy ax ay _ H3.out _).mono ?_) | (with_reducible refine (rWy_is cx cy dx dy bx b_y _ H4.out _).mono ?_)); rintro e w2 ⟨rfl, hn⟩))
      replace hb := hb.trans (hn.mono hb.size)
      refine hK.out _ _ (up_iff.2 hb) ?_
      clear hK K
      clear hn
      refine wpS_doL rfl ?_
      intro K hK
      go_wp2_with ((go_at_call 46; (first | (with_reducible refine (rWy_is ax ay bx b_y cx cy _ H1.out _).mono ?_) | (with_reducible refine (rWy_is ax ay bx b_y dx dy _ H2.out _).mono ?_) | (with_reducible refine (rWy_is cx cy dx dy ax ay _ H3.out _).mono ?_) | (with_reducible refine (rWy_is cx cy dx dy bx b_y _ H4.out _).mono ?_)); rintro e w2 ⟨rfl, hn⟩))
      replace hb := hb.trans (hn.mono hb.size)
      refine hK.out _ _ (up_iff.2 hb) ?_
      clear hK K
      clear hn
      iterate 9
        refine wpS_takeL rfl rfl ?_
        go_big_quiet_step (rfl)
        refine wpQuiet_nil ?_
      refine wpS_doL rfl ?_
      intro K hK
      go_wp2_with ((go_at_call 46; (first | (with_reducible refine (rWy_is ax ay bx b_y cx cy _ H1.out _).mono ?_) | (with_reducible refine (rWy_is ax ay bx b_y dx dy _ H2.out _).mono ?_) | (with_reducible refine (rWy_is cx cy dx dy ax ay _ H3.out _).mono ?_) | (with_reducible refine (rWy_is cx cy dx dy bx b_y _ H4.out _).mono ?_)); rintro e w2 ⟨rfl, hn⟩))
      try replace hb := hb.trans (hn.mono hb.size)
      refine hK.out _ _ (up_iff.2 hb) ?_
      clear hK K
      try clear hn
      refine wpS_nil ?_
      simp only [List.drop_succ_cons, List.drop_zero]
      go_wp2_with fail
      refine (rWy_is cx cy dx dy bx b_y _ H4.out _).mono ?_
      rintro e w3 ⟨rfl, hn3⟩
      have hb3 := hb.trans (hn3.mono hb.size)
      clear hn3 hb
      go_wp2
      go_ret
      exact ⟨_, rfl, by decide, HB.out.trans (hb3.mono HB.out.size)⟩
    · skip
      refine wp_region_up V.heap.size 18 [(true, 0), (true, 1), (true, 2), (true, 4), (true, 5), (true, 6), (false, 3), (false, 7), (true, 8), (true, 9), (true, 10), (true, 11), (true, 12), (true, 13), (true, 15), (true, 16), (true, 17), (false, 14)] (by kernel_rfl) (by kernel_rfl) (fun _ _ d _ _ h => by cases d <;> exact h) ?_
      have hb : Below V.heap.size V V.drew := (Below.refl _ _).drew
      iterate 6
        refine wpS_takeL rfl rfl ?_
        go_big_quiet_step (rfl)
        refine wpQuiet_nil ?_
      refine wpS_doL rfl ?_
      intro K hK
      go_wp2_with ((go_at_call 46; (first | (with_reducible refine (rWy_is ax ay bx b_y cx cy _ H1.out _).mono ?_) | (with_reducible refine (rWy_is ax ay bx b_y dx dy _ H2.out _).mono ?_) | (with_reducible refine (rWy_is cx cy dx dy ax ay _ H3.out _).mono ?_) | (with_reducible refine (rWy_is cx cy dx dy bx b_y _ H4.out _).mono ?_)); rintro e w2 ⟨rfl, hn⟩))
      replace hb := hb.trans (hn.mono hb.size)
      refine hK.out _ _ (up_iff.2 hb) ?_
      clear hK K
      clear hn
      refine wpS_doL rfl ?_
      intro K hK
      go_wp2_with ((go_at_call 46; (first | (with_reducible refine (rWy_is ax ay bx b_y cx cy _ H1.out _).mono ?_) | (with_reducible refine (rWy_is ax ay bx b_y dx dy _ H2.out _).mono ?_) | (with_reducible refine (rWy_is cx cy dx dy ax ay _ H3.out _).mono ?_) | (with_reducible refine (rWy_is cx cy dx dy bx b_y _ H4.out _).mono ?_)); rintro e w2 ⟨rfl, hn⟩))
      replace hb := hb.trans (hn.mono hb.size)
      refine hK.out _ _ (up_iff.2 hb) ?_
      clear hK K
      clear hn
      iterate 9
        refine wpS_takeL rfl rfl ?_
        go_big_quiet_step (rfl)
        refine wpQuiet_nil ?_
      refine wpS_doL rfl ?_
      intro K hK
      go_wp2_with ((go_at_call 46; (first | (with_reducible refine (rWy_is ax ay bx b_y cx cy _ H1.out _).mono ?_) | (with_reducible refine (rWy_is ax ay bx b_y dx dy _ H2.out _).mono ?_) | (with_reducible refine (rWy_is cx cy dx dy ax ay _ H3.out _).mono ?_) | (with_reducible refine (rWy_is cx cy dx dy bx b_y _ H4.out _).mono ?_)); rintro e w2 ⟨rfl, hn⟩))
      try replace hb := hb.trans (hn.mono hb.size)
      refine hK.out _ _ (up_iff.2 hb) ?_
      clear hK K
      try clear hn
      refine wpS_nil ?_
      simp only [List.drop_succ_cons, List.drop_zero]
      go_wp2_with fail
      refine (rWy_is cx cy dx dy bx b_y _ H4.out _).mono ?_
      rintro e w3 ⟨rfl, hn3⟩
      have hb3 := hb.trans (hn3.mono hb.size)
      clear hn3 hb
      go_wp2
      go_ret
      exact ⟨_, rfl, by decide, HB.out.trans (hb3.mono HB.out.size)⟩
    · skip
      refine wp_region_up V.heap.size 18 [(true, 0), (true, 1), (true, 2), (true, 4), (true, 5), (true, 6), (false, 3), (false, 7), (true, 8), (true, 9), (true, 10), (true, 11), (true, 12), (true, 13), (true, 15), (true, 16), (true, 17), (false, 14)] (by kernel_rfl) (by kernel_rfl) (fun _ _ d _ _ h => by cases d <;> exact h) ?_
      have hb : Below V.heap.size V V.drew := (Below.refl _ _).drew
      iterate 6
        refine wpS_takeL rfl rfl ?_
        go_big_quiet_step (rfl)
        refine wpQuiet_nil ?_
      refine wpS_doL rfl ?_
      intro K hK
      go_wp2_with ((go_at_call 46; (first | (with_reducible refine (rWy_is ax ay bx b_y cx cy _ H1.out _).mono ?_) | (with_reducible refine (rWy_is ax ay bx b_y dx dy _ H2.out _).mono ?_) | (with_reducible refine (rWy_is cx cy dx dy ax ay _ H3.out _).mono ?_) | (with_reducible refine (rWy_is cx cy dx dy bx b_y _ H4.out _).mono ?_)); rintro e w2 ⟨rfl, hn⟩))
      replace hb := hb.trans (hn.mono hb.size)
      refine hK.out _ _ (up_iff.2 hb) ?_
      clear hK K
      clear hn
      refine wpS_doL rfl ?_
      intro K hK
      go_wp2_with ((go_at_call 46; (first | (with_reducible refine (rWy_is ax ay bx b_y cx cy _ H1.out _).mono ?_) | (with_reducible refine (rWy_is ax ay bx b_y dx dy _ H2.out _).mono ?_) | (with_reducible refine (rWy_is cx cy dx dy ax ay _ H3.out _).mono ?_) | (with_reducible refine (rWy_is cx cy dx dy bx b_y _ H4.out _).mono ?_)); rintro e w2 ⟨rfl, hn⟩))
      replace hb := hb.trans (hn.mono hb.size)
      refine hK.out _ _ (up_iff.2 hb) ?_
      clear hK K
      clear hn
      iterate 9
        refine wpS_takeL rfl rfl ?_
        go_big_quiet_step (rfl)
        refine wpQuiet_nil ?_
      refine wpS_doL rfl ?_
      intro K hK
      go_wp2_with ((go_at_call 46; (first | (with_reducible refine (rWy_is ax ay bx b_y cx cy _ H1.out _).mono ?_) | (with_reducible refine (rWy_is ax ay bx b_y dx dy _ H2.out _).mono ?_) | (with_reducible refine (rWy_is cx cy dx dy ax ay _ H3.out _).mono ?_) | (with_reducible refine (rWy_is cx cy dx dy bx b_y _ H4.out _).mono ?_)); rintro e w2 ⟨rfl, hn⟩))
      try replace hb := hb.trans (hn.mono hb.size)
      refine hK.out _ _ (up_iff.2 hb) ?_
      clear hK K
      try clear hn
      refine wpS_nil ?_
      simp only [List.drop_succ_cons, List.drop_zero]
      go_wp2_with fail
      refine (rWy_is cx cy dx dy bx b_y _ H4.out _).mono ?_
      rintro e w3 ⟨rfl, hn3⟩
      have hb3 := hb.trans (hn3.mono hb.size)
      clear hn3 hb
      go_wp2
      go_ret
      exact ⟨_, rfl, by decide, HB.out.trans (hb3.mono HB.out.size)⟩
    · skip
      refine wp_region_up V.heap.size 18 [(true, 0), (true, 1), (true, 2), (true, 4), (true, 5), (true, 6), (false, 3), (false, 7), (true, 8), (true, 9), (true, 10), (true, 11), (true, 12), (true, 13), (true, 15), (true, 16), (true, 17), (false, 14)] (by kernel_rfl) (by kernel_rfl) (fun _ _ d _ _ h => by cases d <;> exact h) ?_
      have hb : Below V.heap.size V V.drew := (Below.refl _ _).drew
      iterate 6
        refine wpS_takeL rfl rfl ?_
        go_big_quiet_step (rfl)
        refine wpQuiet_nil ?_
      refine wpS_doL rfl ?_
      intro K hK
      go_wp2_with ((go_at_call 46; (first | (with_reducible refine (rWy_is ax ay bx b_y cx cy _ H1.out _).mono ?_) | (with_reducible refine (rWy_is ax ay bx b_y dx dy _ H2.out _).mono ?_) | (with_reducible refine (rWy_is cx cy dx dy ax ay _ H3.out _).mono ?_) | (with_reducible refine (rWy_is cx cy dx dy bx b_y _ H4.out _).mono ?_)); rintro e w2 ⟨rfl, hn⟩))
      replace hb := hb.trans (hn.mono hb.size)
      refine hK.out _ _ (up_iff.2 hb) ?_
      clear hK K
      clear hn
      refine wpS_doL rfl ?_
      intro K hK
      go_wp2_with ((go_at_call 46; (first | (with_reducible refine (rWy_is ax ay bx b_y cx cy _ H1.out _).mono ?_) | (with_reducible refine (rWy_is ax ay bx b_y dx dy _ H2.out _).mono ?_) | (with_reducible refine (rWy_is cx cy dx dy ax ay _ H3.out _).mono ?_) | (with_reducible refine (rWy_is cx cy dx dy bx b_y _ H4.out _).mono ?_)); rintro e w2 ⟨rfl, hn⟩))
      replace hb := hb.trans (hn.mono hb.size)
      refine hK.out _ _ (up_iff.2 hb) ?_
      clear hK K
      clear hn
      iterate 9
        refine wpS_takeL rfl rfl ?_
        go_big_quiet_step (rfl)
        refine wpQuiet_nil ?_
      refine wpS_doL rfl ?_
      intro K hK
      go_wp2_with ((go_at_call 46; (first | (with_reducible refine (rWy_is ax ay bx b_y cx cy _ H1.out _).mono ?_) | (with_reducible refine (rWy_is ax ay bx b_y dx dy _ H2.out _).mono ?_) | (with_reducible refine (rWy_is cx cy dx dy ax ay _ H3.out _).mono ?_) | (with_reducible refine (rWy_is cx cy dx dy bx b_y _ H4.out _).mono ?_)); rintro e w2 ⟨rfl, hn⟩))
      try replace hb := hb.trans (hn.mono hb.size)
      refine hK.out _ _ (up_iff.2 hb) ?_
      clear hK K
      try clear hn
      refine wpS_nil ?_
      simp only [List.drop_succ_cons, List.drop_zero]
      go_wp2_with fail
      refine (rWy_is cx cy dx dy bx b_y _ H4.out _).mono ?_
      rintro e w3 ⟨rfl, hn3⟩
      have hb3 := hb.trans (hn3.mono hb.size)
      clear hn3 hb
      go_wp2
      go_ret
      exact ⟨_, rfl, by decide, HB.out.trans (hb3.mono HB.out.size)⟩
    · skip
      refine wp_region_up V.heap.size 18 [(true, 0), (true, 1), (true, 2), (true, 4), (true, 5), (true, 6), (false, 3), (false, 7), (true, 8), (true, 9), (true, 10), (true, 11), (true, 12), (true, 13), (true, 15), (true, 16), (true, 17), (false, 14)] (by kernel_rfl) (by kernel_rfl) (fun _ _ d _ _ h => by cases d <;> exact h) ?_
      have hb : Below V.heap.size V V.drew := (Below.refl _ _).drew
      iterate 6
        refine wpS_takeL rfl rfl ?_
        go_big_quiet_step (rfl)
        refine wpQuiet_nil ?_
      refine wpS_doL rfl ?_
      intro K hK
      go_wp2_with ((go_at_call 46; (first | (with_reducible refine (rWy_is ax ay bx b_y cx cy _ H1.out _).mono ?_) | (with_reducible refine (rWy_is ax ay bx b_y dx dy _ H2.out _).mono ?_) | (with_reducible refine (rWy_is cx cy dx dy ax ay _ H3.out _).mono ?_) | (with_reducible refine (rWy_is cx cy dx dy bx b_y _ H4.out _).mono ?_)); rintro e w2 ⟨rfl, hn⟩))
      replace hb := hb.trans (hn.mono hb.size)
      refine hK.out _ _ (up_iff.2 hb) ?_
      clear hK K
      clear hn
      refine wpS_doL rfl ?_
      intro K hK
      go_wp2_with ((go_at_call 46; (first | (with_reducible refine (rWy_is ax ay bx b_y cx cy _ H1.out _).mono ?_) | (with_reducible refine (rWy_is ax ay bx b_y dx dy _ H2.out _).mono ?_) | (with_reducible refine (rWy_is cx cy dx dy ax ay _ H3.out _).mono ?_) | (with_reducible refine (rWy_is cx cy dx dy bx b_y _ H4.out _).mono ?_)); rintro e w2 ⟨rfl, hn⟩))
      replace hb := hb.trans (hn.mono hb.size)
      refine hK.out _ _ (up_iff.2 hb) ?_
      clear hK K
      clear hn
      iterate 9
        refine wpS_takeL rfl rfl ?_
        go_big_quiet_step (rfl)
        refine wpQuiet_nil ?_
      refine wpS_doL rfl ?_
      intro K hK
      go_wp2_with ((go_at_call 46; (first | (with_reducible refine (rWy_is ax ay bx b_y cx cy _ H1.out _).mono ?_) | (with_reducible refine (rWy_is ax ay bx b_y dx dy _ H2.out _).mono ?_) | (with_reducible refine (rWy_is cx cy dx dy ax ay _ H3.out _).mono ?_) | (with_reducible refine (rWy_is cx cy dx dy bx b_y _ H4.out _).mono ?_)); rintro e w2 ⟨rfl, hn⟩))
      try replace hb := hb.trans (hn.mono hb.size)
      refine hK.out _ _ (up_iff.2 hb) ?_
      clear hK K
      try clear hn
      refine wpS_nil ?_
      simp only [List.drop_succ_cons, List.drop_zero]
      go_wp2_with fail
      refine (rWy_is cx cy dx dy bx b_y _ H4.out _).mono ?_
      rintro e w3 ⟨rfl, hn3⟩
      have hb3 := hb.trans (hn3.mono hb.size)
      clear hn3 hb
      go_wp2
      go_ret
      exact ⟨_, rfl, by decide, HB.out.trans (hb3.mono HB.out.size)⟩
    · skip
      refine wp_region_up V.heap.size 18 [(true, 0), (true, 1), (true, 2), (true, 4), (true, 5), (true, 6), (false, 3), (false, 7), (true, 8), (true, 9), (true, 10), (true, 11), (true, 12), (true, 13), (true, 15), (true, 16), (true, 17), (false, 14)] (by kernel_rfl) (by kernel_rfl) (fun _ _ d _ _ h => by cases d <;> exact h) ?_
      have hb : Below V.heap.size V V.drew := (Below.refl _ _).drew
      iterate 6
        refine wpS_takeL rfl rfl ?_
        go_big_quiet_step (rfl)
        refine wpQuiet_nil ?_
      refine wpS_doL rfl ?_
      intro K hK
      go_wp2_with ((go_at_call 46; (first | (with_reducible refine (rWy_is ax ay bx b_y cx cy _ H1.out _).mono ?_) | (with_reducible refine (rWy_is ax ay bx b_y dx dy _ H2.out _).mono ?_) | (with_reducible refine (rWy_is cx cy dx dy ax ay _ H3.out _).mono ?_) | (with_reducible refine (rWy_is cx cy dx dy bx b_y _ H4.out _).mono ?_)); rintro e w2 ⟨rfl, hn⟩))
      replace hb := hb.trans (hn.mono hb.size)
      refine hK.out _ _ (up_iff.2 hb) ?_
      clear hK K
      clear hn
      refine wpS_doL rfl ?_
      intro K hK
      go_wp2_with ((go_at_call 46; (first | (with_reducible refine (rWy_is ax ay bx b_y cx cy _ H1.out _).mono ?_) | (with_reducible refine (rWy_is ax ay bx b_y dx dy _ H2.out _).mono ?_) | (with_reducible refine (rWy_is cx cy dx dy ax ay _ H3.out _).mono ?_) | (with_reducible refine (rWy_is cx cy dx dy bx b_y _ H4.out _).mono ?_)); rintro e w2 ⟨rfl, hn⟩))
      replace hb := hb.trans (hn.mono hb.size)
      refine hK.out _ _ (up_iff.2 hb) ?_
      clear hK K
      clear hn
      iterate 9
        refine wpS_takeL rfl rfl ?_
        go_big_quiet_step (rfl)
        refine wpQuiet_nil ?_
      refine wpS_doL rfl ?_
      intro K hK
      go_wp2_with ((go_at_call 46; (first | (with_reducible refine (rWy_is ax ay bx b_y cx cy _ H1.out _).mono ?_) | (with_reducible refine (rWy_is ax ay bx b_y dx dy _ H2.out _).mono ?_) | (with_reducible refine (rWy_is cx cy dx dy ax ay _ H3.out _).mono ?_) | (with_reducible refine (rWy_is cx cy dx dy bx b_y _ H4.out _).mono ?_)); rintro e w2 ⟨rfl, hn⟩))
      try replace hb := hb.trans (hn.mono hb.size)
      refine hK.out _ _ (up_iff.2 hb) ?_
      clear hK K
      try clear hn
      refine wpS_nil ?_
      simp only [List.drop_succ_cons, List.drop_zero]
      go_wp2_with fail
      refine (rWy_is cx cy dx dy bx b_y _ H4.out _).mono ?_
      rintro e w3 ⟨rfl, hn3⟩
      have hb3 := hb.trans (hn3.mono hb.size)
      clear hn3 hb
      go_wp2
      go_ret
      exact ⟨_, rfl, by decide, HB.out.trans (hb3.mono HB.out.size)⟩
    · skip
      refine wp_region_up V.heap.size 18 [(true, 0), (true, 1), (true, 2), (true, 4), (true, 5), (true, 6), (false, 3), (false, 7), (true, 8), (true, 9), (true, 10), (true, 11), (true, 12), (true, 13), (true, 15), (true, 16), (true, 17), (false, 14)] (by kernel_rfl) (by kernel_rfl) (fun _ _ d _ _ h => by cases d <;> exact h) ?_
      have hb : Below V.heap.size V V.drew := (Below.refl _ _).drew
      iterate 6
        refine wpS_takeL rfl rfl ?_
        go_big_quiet_step (rfl)
        refine wpQuiet_nil ?_
      refine wpS_doL rfl ?_
      intro K hK
      go_wp2_with ((go_at_call 46; (first | (with_reducible refine (rWy_is ax ay bx b_y cx cy _ H1.out _).mono ?_) | (with_reducible refine (rWy_is ax ay bx b_y dx dy _ H2.out _).mono ?_) | (with_reducible refine (rWy_is cx cy dx dy ax ay _ H3.out _).mono ?_) | (with_reducible refine (rWy_is cx cy dx dy bx b_y _ H4.out _).mono ?_)); rintro e w2 ⟨rfl, hn⟩))
      replace hb := hb.trans (hn.mono hb.size)
      refine hK.out _ _ (up_iff.2 hb) ?_
      clear hK K
      clear hn
      refine wpS_doL rfl ?_
      intro K hK
      go_wp2_with ((go_at_call 46; (first | (with_reducible refine (rWy_is ax ay bx b_y cx cy _ H1.out _).mono ?_) | (with_reducible refine (rWy_is ax ay bx b_y dx dy _ H2.out _).mono ?_) | (with_reducible refine (rWy_is cx cy dx dy ax ay _ H3.out _).mono ?_) | (with_reducible refine (rWy_is cx cy dx dy bx b_y _ H4.out _).mono ?_)); rintro e w2 ⟨rfl, hn⟩))
      replace hb := hb.trans (hn.mono hb.size)
      refine hK.out _ _ (up_iff.2 hb) ?_
      clear hK K
      clear hn
      iterate 9
        refine wpS_takeL rfl rfl ?_
        go_big_quiet_step (rfl)
        refine wpQuiet_nil ?_
      refine wpS_doL rfl ?_
      intro K hK
      go_wp2_with ((go_at_call 46; (first | (with_reducible refine (rWy_is ax ay bx b_y cx cy _ H1.out _).mono ?_) | (with_reducible refine (rWy_is ax ay bx b_y dx dy _ H2.out _).mono ?_) | (with_reducible refine (rWy_is cx cy dx dy ax ay _ H3.out _).mono ?_) | (with_reducible refine (rWy_is cx cy dx dy bx b_y _ H4.out _).mono ?_)); rintro e w2 ⟨rfl, hn⟩))
      try replace hb := hb.trans (hn.mono hb.size)
      refine hK.out _ _ (up_iff.2 hb) ?_
      clear hK K
      try clear hn
      refine wpS_nil ?_
      simp only [List.drop_succ_cons, List.drop_zero]
      go_wp2_with fail
      refine (rWy_is cx cy dx dy bx b_y _ H4.out _).mono ?_
      rintro e w3 ⟨rfl, hn3⟩
      have hb3 := hb.trans (hn3.mono hb.size)
      clear hn3 hb
      go_wp2
      go_ret
      exact ⟨_, rfl, by decide, HB.out.trans (hb3.mono HB.out.size)⟩
    · skip
      refine wp_region_up V.heap.size 18 [(true, 0), (true, 1), (true, 2), (true, 4), (true, 5), (true, 6), (false, 3), (false, 7), (true, 8), (true, 9), (true, 10), (true, 11), (true, 12), (true, 13), (true, 15), (true, 16), (true, 17), (false, 14)] (by kernel_rfl) (by kernel_rfl) (fun _ _ d _ _ h => by cases d <;> exact h) ?_
      have hb : Below V.heap.size V V.drew := (Below.refl _ _).drew
      iterate 6
        refine wpS_takeL rfl rfl ?_
        go_big_quiet_step (rfl)
        refine wpQuiet_nil ?_
      refine wpS_doL rfl ?_
      intro K hK
      go_wp2_with ((go_at_call 46; (first | (with_reducible refine (rWy_is ax ay bx b_y cx cy _ H1.out _).mono ?_) | (with_reducible refine (rWy_is ax ay bx b_y dx dy _ H2.out _).mono ?_) | (with_reducible refine (rWy_is cx cy dx dy ax ay _ H3.out _).mono ?_) | (with_reducible refine (rWy_is cx cy dx dy bx b_y _ H4.out _).mono ?_)); rintro e w2 ⟨rfl, hn⟩))
      replace hb := hb.trans (hn.mono hb.size)
      refine hK.out _ _ (up_iff.2 hb) ?_
      clear hK K
      clear hn
      refine wpS_doL rfl ?_
      intro K hK
      go_wp2_with ((go_at_call 46; (first | (with_reducible refine (rWy_is ax ay bx b_y cx cy _ H1.out _).mono ?_) | (with_reducible refine (rWy_is ax ay bx b_y dx dy _ H2.out _).mono ?_) | (with_reducible refine (rWy_is cx cy dx dy ax ay _ H3.out _).mono ?_) | (with_reducible refine (rWy_is cx cy dx dy bx b_y _ H4.out _).mono ?_)); rintro e w2 ⟨rfl, hn⟩))
      replace hb := hb.trans (hn.mono hb.size)
      refine hK.out _ _ (up_iff.2 hb) ?_
      clear hK K
      clear hn
      iterate 9
        refine wpS_takeL rfl rfl ?_
        go_big_quiet_step (rfl)
        refine wpQuiet_nil ?_
      refine wpS_doL rfl ?_
      intro K hK
      go_wp2_with ((go_at_call 46; (first | (with_reducible refine (rWy_is ax ay bx b_y cx cy _ H1.out _).mono ?_) | (with_reducible refine (rWy_is ax ay bx b_y dx dy _ H2.out _).mono ?_) | (with_reducible refine (rWy_is cx cy dx dy ax ay _ H3.out _).mono ?_) | (with_reducible refine (rWy_is cx cy dx dy bx b_y _ H4.out _).mono ?_)); rintro e w2 ⟨rfl, hn⟩))
      try replace hb := hb.trans (hn.mono hb.size)
      refine hK.out _ _ (up_iff.2 hb) ?_
      clear hK K
      try clear hn
      refine wpS_nil ?_
      simp only [List.drop_succ_cons, List.drop_zero]
      go_wp2_with fail
      refine (rWy_is cx cy dx dy bx b_y _ H4.out _).mono ?_
      rintro e w3 ⟨rfl, hn3⟩
      have hb3 := hb.trans (hn3.mono hb.size)
      clear hn3 hb
      go_wp2
      go_ret
      exact ⟨_, rfl, by decide, HB.out.trans (hb3.mono HB.out.size)⟩
  · skip
    refine wp_region_up V.heap.size 18 [(true, 0), (true, 1), (true, 2), (true, 4), (true, 5), (true, 6), (false, 3), (false, 7), (true, 8), (true, 9), (true, 10), (true, 11), (true, 12), (true, 13), (true, 15), (true, 16), (true, 17), (false, 14)] (by kernel_rfl) (by kernel_rfl) (fun _ _ d _ _ h => by cases d <;> exact h) ?_
    have hb : Below V.heap.size V V.drew := (Below.refl _ _).drew
    iterate 6
      refine wpS_takeL rfl rfl ?_
      go_big_quiet_step (rfl)
      refine wpQuiet_nil ?_
    refine wpS_doL rfl ?_
    intro K hK
    go_wp2_with ((go_at_call 46; (first | (with_reducible refine (rWy_is ax ay bx b_y cx cy _ H1.out _).mono ?_) | (with_reducible refine (rWy_is ax ay bx b_y dx dy _ H2.out _).mono ?_) | (with_reducible refine (rWy_is cx cy dx dy ax ay _ H3.out _).mono ?_) | (with_reducible refine (rWy_is cx cy dx dy bx b_y _ H4.out _).mono ?_)); rintro e w2 ⟨rfl, hn⟩))
    replace hb := hb.trans (hn.mono hb.size)
    refine hK.out _ _ (up_iff.2 hb) ?_
    clear hK K
    clear hn
    refine wpS_doL rfl ?_
    intro K hK
    go_wp2_with ((go_at_call 46; (first | (with_reducible refine (rWy_is ax ay bx b_y cx cy _ H1.out _).mono ?_) | (with_reducible refine (rWy_is ax ay bx b_y dx dy _ H2.out _).mono ?_) | (with_reducible refine (rWy_is cx cy dx dy ax ay _ H3.out _).mono ?_) | (with_reducible refine (rWy_is cx cy dx dy bx b_y _ H4.out _).mono ?_)); rintro e w2 ⟨rfl, hn⟩))
    replace hb := hb.trans (hn.mono hb.size)
    refine hK.out _ _ (up_iff.2 hb) ?_
    clear hK K
    clear hn
    iterate 9
      refine wpS_takeL rfl rfl ?_
      go_big_quiet_step (rfl)
      refine wpQuiet_nil ?_
    refine wpS_doL rfl ?_
    intro K hK
    go_wp2_with ((go_at_call 46; (first | (with_reducible refine (rWy_is ax ay bx b_y cx cy _ H1.out _).mono ?_) | (with_reducible refine (rWy_is ax ay bx b_y dx dy _ H2.out _).mono ?_) | (with_reducible refine (rWy_is cx cy dx dy ax ay _ H3.out _).mono ?_) | (with_reducible refine (rWy_is cx cy dx dy bx b_y _ H4.out _).mono ?_)); rintro e w2 ⟨rfl, hn⟩))
    try replace hb := hb.trans (hn.mono hb.size)
    refine hK.out _ _ (up_iff.2 hb) ?_
    clear hK K
    try clear hn
    refine wpS_nil ?_
    simp only [List.drop_succ_cons, List.drop_zero]
    go_wp2
    go_ret
    exact ⟨_, rfl, ⟨fun h => (by cases h), fun h => absurd h.1 (by decide)⟩, HB.out.trans (hb.mono HB.out.size)⟩
  · skip
    refine wp_region_up V.heap.size 18 [(true, 0), (true, 1), (true, 2), (true, 4), (true, 5), (true, 6), (false, 3), (false, 7), (true, 8), (true, 9), (true, 10), (true, 11), (true, 12), (true, 13), (true, 15), (true, 16), (true, 17), (false, 14)] (by kernel_rfl) (by kernel_rfl) (fun _ _ d _ _ h => by cases d <;> exact h) ?_
    have hb : Below V.heap.size V V.drew := (Below.refl _ _).drew
    iterate 6
      refine wpS_takeL rfl rfl ?_
      go_big_quiet_step (rfl)
      refine wpQuiet_nil ?_
    refine wpS_doL rfl ?_
    intro K hK
    go_wp2_with ((go_at_call 46; (first | (with_reducible refine (rWy_is ax ay bx b_y cx cy _ H1.out _).mono ?_) | (with_reducible refine (rWy_is ax ay bx b_y dx dy _ H2.out _).mono ?_) | (with_reducible refine (rWy_is cx cy dx dy ax ay _ H3.out _).mono ?_) | (with_reducible refine (rWy_is cx cy dx dy bx b_y _ H4.out _).mono ?_)); rintro e w2 ⟨rfl, hn⟩))
    replace hb := hb.trans (hn.mono hb.size)
    refine hK.out _ _ (up_iff.2 hb) ?_
    clear hK K
    clear hn
    refine wpS_doL rfl ?_
    intro K hK
    go_wp2_with ((go_at_call 46; (first | (with_reducible refine (rWy_is ax ay bx b_y cx cy _ H1.out _).mono ?_) | (with_reducible refine (rWy_is ax ay bx b_y dx dy _ H2.out _).mono ?_) | (with_reducible refine (rWy_is cx cy dx dy ax ay _ H3.out _).mono ?_) | (with_reducible refine (rWy_is cx cy dx dy bx b_y _ H4.out _).mono ?_)); rintro e w2 ⟨rfl, hn⟩))
    replace hb := hb.trans (hn.mono hb.size)
    refine hK.out _ _ (up_iff.2 hb) ?_
    clear hK K
    clear hn
    iterate 9
      refine wpS_takeL rfl rfl ?_
      go_big_quiet_step (rfl)
      refine wpQuiet_nil ?_
    refine wpS_doL rfl ?_
    intro K hK
    go_wp2_with ((go_at_call 46; (first | (with_reducible refine (rWy_is ax ay bx b_y cx cy _ H1.out _).mono ?_) | (with_reducible refine (rWy_is ax ay bx b_y dx dy _ H2.out _).mono ?_) | (with_reducible refine (rWy_is cx cy dx dy ax ay _ H3.out _).mono ?_) | (with_reducible refine (rWy_is cx cy dx dy bx b_y _ H4.out _).mono ?_)); rintro e w2 ⟨rfl, hn⟩))
    try replace hb := hb.trans (hn.mono hb.size)
    refine hK.out _ _ (up_iff.2 hb) ?_
    clear hK K
    try clear hn
    refine wpS_nil ?_
    simp only [List.drop_succ_cons, List.drop_zero]
    go_wp2
    go_ret
    exact ⟨_, rfl, ⟨fun h => (by cases h), fun h => absurd h.1 (by decide)⟩, HB.out.trans (hb.mono HB.out.size)⟩
  · skip
    refine wp_region_up V.heap.size 18 [(true, 0), (true, 1), (true, 2), (true, 4), (true, 5), (true, 6), (false, 3), (false, 7), (true, 8), (true, 9), (true, 10), (true, 11), (true, 12), (true, 13), (true, 15), (true, 16), (true, 17), (false, 14)] (by kernel_rfl) (by kernel_rfl) (fun _ _ d _ _ h => by cases d <;> exact h) ?_
    have hb : Below V.heap.size V V.drew := (Below.refl _ _).drew
    iterate 6
      refine wpS_takeL rfl rfl ?_
      go_big_quiet_step (rfl)
      refine wpQuiet_nil ?_
    refine wpS_doL rfl ?_
    intro K hK
    go_wp2_with ((go_at_call 46; (first | (with_reducible refine (rWy_is ax ay bx b_y cx cy _ H1.out _).mono ?_) | (with_reducible refine (rWy_is ax ay bx b_y dx dy _ H2.out _).mono ?_) | (with_reducible refine (rWy_is cx cy dx dy ax ay _ H3.out _).mono ?_) | (with_reducible refine (rWy_is cx cy dx dy bx b_y _ H4.out _).mono ?_)); rintro e w2 ⟨rfl, hn⟩))
    replace hb := hb.trans (hn.mono hb.size)
    refine hK.out _ _ (up_iff.2 hb) ?_
    clear hK K
    clear hn
    refine wpS_doL rfl ?_
    intro K hK
    go_wp2_with ((go_at_call 46; (first | (with_reducible refine (rWy_is ax ay bx b_y cx cy _ H1.out _).mono ?_) | (with_reducible refine (rWy_is ax ay bx b_y dx dy _ H2.out _).mono ?_) | (with_reducible refine (rWy_is cx cy dx dy ax ay _ H3.out _).mono ?_) | (with_reducible refine (rWy_is cx cy dx dy bx b_y _ H4.out _).mono ?_)); rintro e w2 ⟨rfl, hn⟩))
    replace hb := hb.trans (hn.mono hb.size)
    refine hK.out _ _ (up_iff.2 hb) ?_
    clear hK K
    clear hn
    iterate 9
      refine wpS_takeL rfl rfl ?_
      go_big_quiet_step (rfl)
      refine wpQuiet_nil ?_
    refine wpS_doL rfl ?_
    intro K hK
    go_wp2_with ((go_at_call 46; (first | (with_reducible refine (rWy_is ax ay bx b_y cx cy _ H1.out _).mono ?_) | (with_reducible refine (rWy_is ax ay bx b_y dx dy _ H2.out _).mono ?_) | (with_reducible refine (rWy_is cx cy dx dy ax ay _ H3.out _).mono ?_) | (with_reducible refine (rWy_is cx cy dx dy bx b_y _ H4.out _).mono ?_)); rintro e w2 ⟨rfl, hn⟩))
    try replace hb := hb.trans (hn.mono hb.size)
    refine hK.out _ _ (up_iff.2 hb) ?_
    clear hK K
    try clear hn
    refine wpS_nil ?_
    simp only [List.drop_succ_cons, List.drop_zero]
    go_wp2
    go_ret
    exact ⟨_, rfl, ⟨fun h => (by cases h), fun h => absurd h.1 (by decide)⟩, HB.out.trans (hb.mono HB.out.size)⟩
  · rcases hr3 with rfl | rfl | rfl <;> rcases hr4 with rfl | rfl | rfl
    · skip
      refine wp_region_up V.heap.size 18 [(true, 0), (true, 1), (true, 2), (true, 4), (true, 5), (true, 6), (false, 3), (false, 7), (true, 8), (true, 9), (true, 10), (true, 11), (true, 12), (true, 13), (true, 15), (true, 16), (true, 17), (false, 14)] (by kernel_rfl) (by kernel_rfl) (fun _ _ d _ _ h => by cases d <;> exact h) ?_
      have hb : Below V.heap.size V V.drew := (Below.refl _ _).drew
      iterate 6
        refine wpS_takeL rfl rfl ?_
        go_big_quiet_step (rfl)
        refine wpQuiet_nil ?_
      refine wpS_doL rfl ?_
      intro K hK
      go_wp2_with ((go_at_call 46; (first | (with_reducible refine (rWy_is ax ay bx b_y cx cy _ H1.out _).mono ?_) | (with_reducible refine (rWy_is ax ay bx b_y dx dy _ H2.out _).mono ?_) | (with_reducible refine (rWy_is cx cy dx dy ax ay _ H3.out _).mono ?_) | (with_reducible refine (rWy_is cx cy dx dy bx b_y _ H4.out _).mono ?_)); rintro e w2 ⟨rfl, hn⟩))
      replace hb := hb.trans (hn.mono hb.size)
      refine hK.out _ _ (up_iff.2 hb) ?_
      clear hK K
      clear hn
      refine wpS_doL rfl ?_
      intro K hK
      go_wp2_with ((go_at_call 46; (first | (with_reducible refine (rWy_is ax ay bx b_y cx cy _ H1.out _).mono ?_) | (with_reducible refine (rWy_is ax ay bx b_y dx dy _ H2.out _).mono ?_) | (with_reducible refine (rWy_is cx cy dx dy ax ay _ H3.out _).mono ?_) | (with_reducible refine (rWy_is cx cy dx dy bx b_y _ H4.out _).mono ?_)); rintro e w2 ⟨rfl, hn⟩))
      replace hb := hb.trans (hn.mono hb.size)
      refine hK.out _ _ (up_iff.2 hb) ?_
      clear hK K
      clear hn
      iterate 9
        refine wpS_takeL rfl rfl ?_
        go_big_quiet_step (rfl)
        refine wpQuiet_nil ?_
      refine wpS_doL rfl ?_
      intro K hK
      go_wp2_with ((go_at_call 46; (first | (with_reducible refine (rWy_is ax ay bx b_y cx cy _ H1.out _).mono ?_) | (with_reducible refine (rWy_is ax ay bx b_y dx dy _ H2.out _).mono ?_) | (with_reducible refine (rWy_is cx cy dx dy ax ay _ H3.out _).mono ?_) | (with_reducible refine (rWy_is cx cy dx dy bx b_y _ H4.out _).mono ?_)); rintro e w2 ⟨rfl, hn⟩))
      try replace hb := hb.trans (hn.mono hb.size)
      refine hK.out _ _ (up_iff.2 hb) ?_
      clear hK K
      try clear hn
      refine wpS_nil ?_
      simp only [List.drop_succ_cons, List.drop_zero]
      go_wp2_with fail
      refine (rWy_is cx cy dx dy bx b_y _ H4.out _).mono ?_
      rintro e w3 ⟨rfl, hn3⟩
      have hb3 := hb.trans (hn3.mono hb.size)
      clear hn3 hb
      go_wp2
      go_ret
      exact ⟨_, rfl, by decide, HB.out.trans (hb3.mono HB.out.size)⟩
    · skip
      refine wp_region_up V.heap.size 18 [(true, 0), (true, 1), (true, 2), (true, 4), (true, 5), (true, 6), (false, 3), (false, 7), (true, 8), (true, 9), (true, 10), (true, 11), (true, 12), (true, 13), (true, 15), (true, 16), (true, 17), (false, 14)] (by kernel_rfl) (by kernel_rfl) (fun _ _ d _ _ h => by cases d <;> exact h) ?_
      have hb : Below V.heap.size V V.drew := (Below.refl _ _).drew
      iterate 6
        refine wpS_takeL rfl rfl ?_
        go_big_quiet_step (rfl)
        refine wpQuiet_nil ?_
      refine wpS_doL rfl ?_
      intro K hK
      go_wp2_with ((go_at_call 46; (first | (with_reducible refine (rWy_is ax ay bx b_y cx cy _ H1.out _).mono ?_) | (with_reducible refine (rWy_is ax ay bx b_y dx dy _ H2.out _).mono ?_) | (with_reducible refine (rWy_is cx cy dx dy ax ay _ H3.out _).mono ?_) | (with_reducible refine (rWy_is cx cy dx dy bx b_y _ H4.out _).mono ?_)); rintro e w2 ⟨rfl, hn⟩))
      replace hb := hb.trans (hn.mono hb.size)
      refine hK.out _ _ (up_iff.2 hb) ?_
      clear hK K
      clear hn
      refine wpS_doL rfl ?_
      intro K hK
      go_wp2_with ((go_at_call 46; (first | (with_reducible refine (rWy_is ax ay bx b_y cx cy _ H1.out _).mono ?_) | (with_reducible refine (rWy_is ax ay bx b_y dx dy _ H2.out _).mono ?_) | (with_reducible refine (rWy_is cx cy dx dy ax ay _ H3.out _).mono ?_) | (with_reducible refine (rWy_is cx cy dx dy bx b_y _ H4.out _).mono ?_)); rintro e w2 ⟨rfl, hn⟩))
      replace hb := hb.trans (hn.mono hb.size)
      refine hK.out _ _ (up_iff.2 hb) ?_
      clear hK K
      clear hn
      iterate 9
        refine wpS_takeL rfl rfl ?_
        go_big_quiet_step (rfl)
        refine wpQuiet_nil ?_
      refine wpS_doL rfl ?_
      intro K hK
      go_wp2_with ((go_at_call 46; (first | (with_reducible refine (rWy_is ax ay bx b_y cx cy _ H1.out _).mono ?_) | (with_reducible refine (rWy_is ax ay bx b_y dx dy _ H2.out _).mono ?_) | (with_reducible refine (rWy_is cx cy dx dy ax ay _ H3.out _).mono ?_) | (with_reducible refine (rWy_is cx cy dx dy bx b_y _ H4.out _).mono ?_)); rintro e w2 ⟨rfl, hn⟩))
      try replace hb := hb.trans (hn.mono hb.size)
      refine hK.out _ _ (up_iff.2 hb) ?_
      clear hK K
      try clear hn
      refine wpS_nil ?_
      simp only [List.drop_succ_cons, List.drop_zero]
      go_wp2_with fail
      refine (rWy_is cx cy dx dy bx b_y _ H4.out _).mono ?_
      rintro e w3 ⟨rfl, hn3⟩
      have hb3 := hb.trans (hn3.mono hb.size)
      clear hn3 hb
      go_wp2
      go_ret
      exact ⟨_, rfl, by decide, HB.out.trans (hb3.mono HB.out.size)⟩
    · skip
      refine wp_region_up V.heap.size 18 [(true, 0), (true, 1), (true, 2), (true, 4), (true, 5), (true, 6), (false, 3), (false, 7), (true, 8), (true, 9), (true, 10), (true, 11), (true, 12), (true, 13), (true, 15), (true, 16), (true, 17), (false, 14)] (by kernel_rfl) (by kernel_rfl) (fun _ _ d _ _ h => by cases d <;> exact h) ?_
      have hb : Below V.heap.size V V.drew := (Below.refl _ _).drew
      iterate 6
        refine wpS_takeL rfl rfl ?_
        go_big_quiet_step (rfl)
        refine wpQuiet_nil ?_
      refine wpS_doL rfl ?_
      intro K hK
      go_wp2_with ((go_at_call 46; (first | (with_reducible refine (rWy_is ax ay bx b_y cx cy _ H1.out _).mono ?_) | (with_reducible refine (rWy_is ax ay bx b_y dx dy _ H2.out _).mono ?_) | (with_reducible refine (rWy_is cx cy dx dy ax ay _ H3.out _).mono ?_) | (with_reducible refine (rWy_is cx cy dx dy bx b_y _ H4.out _).mono ?_)); rintro e w2 ⟨rfl, hn⟩))
      replace hb := hb.trans (hn.mono hb.size)
      refine hK.out _ _ (up_iff.2 hb) ?_
      clear hK K
      clear hn
      refine wpS_doL rfl ?_
      intro K hK
      go_wp2_with ((go_at_call 46; (first | (with_reducible refine (rWy_is ax ay bx b_y cx cy _ H1.out _).mono ?_) | (with_reducible refine (rWy_is ax ay bx b_y dx dy _ H2.out _).mono ?_) | (with_reducible refine (rWy_is cx cy dx dy ax ay _ H3.out _).mono ?_) | (with_reducible refine (rWy_is cx cy dx dy bx b_y _ H4.out _).mono ?_)); rintro e w2 ⟨rfl, hn⟩))
      replace hb := hb.trans (hn.mono hb.size)
      refine hK.out _ _ (up_iff.2 hb) ?_
      clear hK K
      clear hn
      iterate 9
        refine wpS_takeL rfl rfl ?_
        go_big_quiet_step (rfl)
        refine wpQuiet_nil ?_
      refine wpS_doL rfl ?_
      intro K hK
      go_wp2_with ((go_at_call 46; (first | (with_reducible refine (rWy_is ax ay bx b_y cx cy _ H1.out _).mono ?_) | (with_reducible refine (rWy_is ax ay bx b_y dx dy _ H2.out _).mono ?_) | (with_reducible refine (rWy_is cx cy dx dy ax ay _ H3.out _).mono ?_) | (with_reducible refine (rWy_is cx cy dx dy bx b_y _ H4.out _).mono ?_)); rintro e w2 ⟨rfl, hn⟩))
      try replace hb := hb.trans (hn.mono hb.size)
      refine hK.out _ _ (up_iff.2 hb) ?_
      clear hK K
      try clear hn
      refine wpS_nil ?_
      simp only [List.drop_succ_cons, List.drop_zero]
      go_wp2_with fail
      refine (rWy_is cx cy dx dy bx b_y _ H4.out _).mono ?_
      rintro e w3 ⟨rfl, hn3⟩
      have hb3 := hb.trans (hn3.mono hb.size)
      clear hn3 hb
      go_wp2
      go_ret
      exact ⟨_, rfl, by decide, HB.out.trans (hb3.mono HB.out.size)⟩
    · skip
      refine wp_region_up V.heap.size 18 [(true, 0), (true, 1), (true, 2), (true, 4), (true, 5), (true, 6), (false, 3), (false, 7), (true, 8), (true, 9), (true, 10), (true, 11), (true, 12), (true, 13), (true, 15), (true, 16), (true, 17), (false, 14)] (by kernel_rfl) (by kernel_rfl) (fun _ _ d _ _ h => by cases d <;> exact h) ?_
      have hb : Below V.heap.size V V.drew := (Below.refl _ _).drew
      iterate 6
        refine wpS_takeL rfl rfl ?_
        go_big_quiet_step (rfl)
        refine wpQuiet_nil ?_
      refine wpS_doL rfl ?_
      intro K hK
      go_wp2_with ((go_at_call 46; (first | (with_reducible refine (rWy_is ax ay bx b_y cx cy _ H1.out _).mono ?_) | (with_reducible refine (rWy_is ax ay bx b_y dx dy _ H2.out _).mono ?_) | (with_reducible refine (rWy_is cx cy dx dy ax ay _ H3.out _).mono ?_) | (with_reducible refine (rWy_is cx cy dx dy bx b_y _ H4.out _).mono ?_)); rintro e w2 ⟨rfl, hn⟩))
      replace hb := hb.trans (hn.mono hb.size)
      refine hK.out _ _ (up_iff.2 hb) ?_
      clear hK K
      clear hn
      refine wpS_doL rfl ?_
      intro K hK
      go_wp2_with ((go_at_call 46; (first | (with_reducible refine (rWy_is ax ay bx b_y cx cy _ H1.out _).mono ?_) | (with_reducible refine (rWy_is ax ay bx b_y dx dy _ H2.out _).mono ?_) | (with_reducible refine (rWy_is cx cy dx dy ax ay _ H3.out _).mono ?_) | (with_reducible refine (rWy_is cx cy dx dy bx b_y _ H4.out _).mono ?_)); rintro e w2 ⟨rfl, hn⟩))
      replace hb := hb.trans (hn.mono hb.size)
      refine hK.out _ _ (up_iff.2 hb) ?_
      clear hK K
      clear hn
      iterate 9
        refine wpS_takeL rfl rfl ?_
        go_big_quiet_step (rfl)
        refine wpQuiet_nil ?_
      refine wpS_doL rfl ?_
      intro K hK
      go_wp2_with ((go_at_call 46; (first | (with_reducible refine (rWy_is ax ay bx b_y cx cy _ H1.out _).mono ?_) | (with_reducible refine (rWy_is ax ay bx b_y dx dy _ H2.out _).mono ?_) | (with_reducible refine (rWy_is cx cy dx dy ax ay _ H3.out _).mono ?_) | (with_reducible refine (rWy_is cx cy dx dy bx b_y _ H4.out _).mono ?_)); rintro e w2 ⟨rfl, hn⟩))
      try replace hb := hb.trans (hn.mono hb.size)
      refine hK.out _ _ (up_iff.2 hb) ?_
      clear hK K
      try clear hn
      refine wpS_nil ?_
      simp only [List.drop_succ_cons, List.drop_zero]
      go_wp2_with fail
      refine (rWy_is cx cy dx dy bx b_y _ H4.out _).mono ?_
      rintro e w3 ⟨rfl, hn3⟩
      have hb3 := hb.trans (hn3.mono hb.size)
      clear hn3 hb
      go_wp2
      go_ret
      exact ⟨_, rfl, by decide, HB.out.trans (hb3.mono HB.out.size)⟩
    · skip
      refine wp_region_up V.heap.size 18 [(true, 0), (true, 1), (true, 2), (true, 4), (true, 5), (true, 6), (false, 3), (false, 7), (true, 8), (true, 9), (true, 10), (true, 11), (true, 12), (true, 13), (true, 15), (true, 16), (true, 17), (false, 14)] (by kernel_rfl) (by kernel_rfl) (fun _ _ d _ _ h => by cases d <;> exact h) ?_
      have hb : Below V.heap.size V V.drew := (Below.refl _ _).drew
      iterate 6
        refine wpS_takeL rfl rfl ?_
        go_big_quiet_step (rfl)
        refine wpQuiet_nil ?_
      refine wpS_doL rfl ?_
      intro K hK
      go_wp2_with ((go_at_call 46; (first | (with_reducible refine (rWy_is ax ay bx b_y cx cy _ H1.out _).mono ?_) | (with_reducible refine (rWy_is ax ay bx b_y dx dy _ H2.out _).mono ?_) | (with_reducible refine (rWy_is cx cy dx dy ax ay _ H3.out _).mono ?_) | (with_reducible refine (rWy_is cx cy dx dy bx b_y _ H4.out _).mono ?_)); rintro e w2 ⟨rfl, hn⟩))
      replace hb := hb.trans (hn.mono hb.size)
      refine hK.out _ _ (up_iff.2 hb) ?_
      clear hK K
      clear hn
      refine wpS_doL rfl ?_
      intro K hK
      go_wp2_with ((go_at_call 46; (first | (with_reducible refine (rWy_is ax ay bx b_y cx cy _ H1.out _).mono ?_) | (with_reducible refine (rWy_is ax ay bx b_y dx dy _ H2.out _).mono ?_) | (with_reducible refine (rWy_is cx cy dx dy ax ay _ H3.out _).mono ?_) | (with_reducible refine (rWy_is cx cy dx dy bx b_y _ H4.out _).mono ?_)); rintro e w2 ⟨rfl, hn⟩))
      replace hb := hb.trans (hn.mono hb.size)
      refine hK.out _ _ (up_iff.2 hb) ?_
      clear hK K
      clear hn
      iterate 9
        refine wpS_takeL rfl rfl ?_
        go_big_quiet_step (rfl)
        refine wpQuiet_nil ?_
      refine wpS_doL rfl ?_
      intro K hK
      go_wp2_with ((go_at_call 46; (first | (with_reducible refine (rWy_is ax ay bx b_y cx cy _ H1.out _).mono ?_) | (with_reducible refine (rWy_is ax ay bx b_y dx dy _ H2.out _).mono ?_) | (with_reducible refine (rWy_is cx cy dx dy ax ay _ H3.out _).mono ?_) | (with_reducible refine (rWy_is cx cy dx dy bx b_y _ H4.out _).mono ?_)); rintro e w2 ⟨rfl, hn⟩))
      try replace hb := hb.trans (hn.mono hb.size)
      refine hK.out _ _ (up_iff.2 hb) ?_
      clear hK K
      try clear hn
      refine wpS_nil ?_
      simp only [List.drop_succ_cons, List.drop_zero]
      go_wp2_with fail
      refine (rWy_is cx cy dx dy bx b_y _ H4.out _).mono ?_
      rintro e w3 ⟨rfl, hn3⟩
      have hb3 := hb.trans (hn3.mono hb.size)
      clear hn3 hb
      go_wp2
      go_ret
      exact ⟨_, rfl, by decide, HB.out.trans (hb3.mono HB.out.size)⟩
    · skip
      refine wp_region_up V.heap.size 18 [(true, 0), (true, 1), (true, 2), (true, 4), (true, 5), (true, 6), (false, 3), (false, 7), (true, 8), (true, 9), (true, 10), (true, 11), (true, 12), (true, 13), (true, 15), (true, 16), (true, 17), (false, 14)] (by kernel_rfl) (by kernel_rfl) (fun _ _ d _ _ h => by cases d <;> exact h) ?_
      have hb : Below V.heap.size V V.drew := (Below.refl _ _).drew
      iterate 6
        refine wpS_takeL rfl rfl ?_
        go_big_quiet_step (rfl)
        refine wpQuiet_nil ?_
      refine wpS_doL rfl ?_
      intro K hK
      go_wp2_with ((go_at_call 46; (first | (with_reducible refine (rWy_is ax ay bx b_y cx cy _ H1.out _).mono ?_) | (with_reducible refine (rWy_is ax ay bx b_y dx dy _ H2.out _).mono ?_) | (with_reducible refine (rWy_is cx cy dx dy ax ay _ H3.out _).mono ?_) | (with_reducible refine (rWy_is cx cy dx dy bx b_y _ H4.out _).mono ?_)); rintro e w2 ⟨rfl, hn⟩))
      replace hb := hb.trans (hn.mono hb.size)
      refine hK.out _ _ (up_iff.2 hb) ?_
      clear hK K
      clear hn
      refine wpS_doL rfl ?_
      intro K hK
      go_wp2_with ((go_at_call 46; (first | (with_reducible refine (rWy_is ax ay bx b_y cx cy _ H1.out _).mono ?_) | (with_reducible refine (rWy_is ax ay bx b_y dx dy _ H2.out _).mono ?_) | (with_reducible refine (rWy_is cx cy dx dy ax ay _ H3.out _).mono ?_) | (with_reducible refine (rWy_is cx cy dx dy bx b_y _ H4.out _).mono ?_)); rintro e w2 ⟨rfl, hn⟩))
      replace hb := hb.trans (hn.mono hb.size)
      refine hK.out _ _ (up_iff.2 hb) ?_
      clear hK K
      clear hn
      iterate 9
        refine wpS_takeL rfl rfl ?_
        go_big_quiet_step (rfl)
        refine wpQuiet_nil ?_
      refine wpS_doL rfl ?_
      intro K hK
      go_wp2_with ((go_at_call 46; (first | (with_reducible refine (rWy_is ax ay bx b_y cx cy _ H1.out _).mono ?_) | (with_reducible refine (rWy_is ax ay bx b_y dx dy _ H2.out _).mono ?_) | (with_reducible refine (rWy_is cx cy dx dy ax ay _ H3.out _).mono ?_) | (with_reducible refine (rWy_is cx cy dx dy bx b_y _ H4.out _).mono ?_)); rintro e w2 ⟨rfl, hn⟩))
      try replace hb := hb.trans (hn.mono hb.size)
      refine hK.out _ _ (up_iff.2 hb) ?_
      clear hK K
      try clear hn
      refine wpS_nil ?_
      simp only [List.drop_succ_cons, List.drop_zero]
      go_wp2_with fail
      refine (rWy_is cx cy dx dy bx b_y _ H4.out _).mono ?_
      rintro e w3 ⟨rfl, hn3⟩
      have hb3 := hb.trans (hn3.mono hb.size)
      clear hn3 hb
      go_wp2
      go_ret
      exact ⟨_, rfl, by decide, HB.out.trans (hb3.mono HB.out.size)⟩
    · skip
      refine wp_region_up V.heap.size 18 [(true, 0), (true, 1), (true, 2), (true, 4), (true, 5), (true, 6), (false, 3), (false, 7), (true, 8), (true, 9), (true, 10), (true, 11), (true, 12), (true, 13), (true, 15), (true, 16), (true, 17), (false, 14)] (by kernel_rfl) (by kernel_rfl) (fun _ _ d _ _ h => by cases d <;> exact h) ?_
      have hb : Below V.heap.size V V.drew := (Below.refl _ _).drew
      iterate 6
        refine wpS_takeL rfl rfl ?_
        go_big_quiet_step (rfl)
        refine wpQuiet_nil ?_
      refine wpS_doL rfl ?_
      intro K hK
      go_wp2_with ((go_at_call 46; (first | (with_reducible refine (rWy_is ax ay bx b_y cx cy _ H1.out _).mono ?_) | (with_reducible refine (rWy_is ax ay bx b_y dx dy _ H2.out _).mono ?_) | (with_reducible refine (rWy_is cx cy dx dy ax ay _ H3.out _).mono ?_) | (with_reducible refine (rWy_is cx cy dx dy bx b_y _ H4.out _).mono ?_)); rintro e w2 ⟨rfl, hn⟩))
      replace hb := hb.trans (hn.mono hb.size)
      refine hK.out _ _ (up_iff.2 hb) ?_
      clear hK K
      clear hn
      refine wpS_doL rfl ?_
      intro K hK
      go_wp2_with ((go_at_call 46; (first | (with_reducible refine (rWy_is ax ay bx b_y cx cy _ H1.out _).mono ?_) | (with_reducible refine (rWy_is ax ay bx b_y dx dy _ H2.out _).mono ?_) | (with_reducible refine (rWy_is cx cy dx dy ax ay _ H3.out _).mono ?_) | (with_reducible refine (rWy_is cx cy dx dy bx b_y _ H4.out _).mono ?_)); rintro e w2 ⟨rfl, hn⟩))
      replace hb := hb.trans (hn.mono hb.size)
      refine hK.out _ _ (up_iff.2 hb) ?_
      clear hK K
      clear hn
      iterate 9
        refine wpS_takeL rfl rfl ?_
        go_big_quiet_step (rfl)
        refine wpQuiet_nil ?_
      refine wpS_doL rfl ?_
      intro K hK
      go_wp2_with ((go_at_call 46; (first | (with_reducible refine (rWy_is ax ay bx b_y cx cy _ H1.out _).mono ?_) | (with_reducible refine (rWy_is ax ay bx b_y dx dy _ H2.out _).mono ?_) | (with_reducible refine (rWy_is cx cy dx dy ax ay _ H3.out _).mono ?_) | (with_reducible refine (rWy_is cx cy dx dy bx b_y _ H4.out _).mono ?_)); rintro e w2 ⟨rfl, hn⟩))
      try replace hb := hb.trans (hn.mono hb.size)
      refine hK.out _ _ (up_iff.2 hb) ?_
      clear hK K
      try clear hn
      refine wpS_nil ?_
      simp only [List.drop_succ_cons, List.drop_zero]
      go_wp2_with fail
      refine (rWy_is cx cy dx dy bx b_y _ H4.out _).mono ?_
      rintro e w3 ⟨rfl, hn3⟩
      have hb3 := hb.trans (hn3.mono hb.size)
      clear hn3 hb
      go_wp2
      go_ret
      exact ⟨_, rfl, by decide, HB.out.trans (hb3.mono HB.out.size)⟩
    · skip
      refine wp_region_up V.heap.size 18 [(true, 0), (true, 1), (true, 2), (true, 4), (true, 5), (true, 6), (false, 3), (false, 7), (true, 8), (true, 9), (true, 10), (true, 11), (true, 12), (true, 13), (true, 15), (true, 16), (true, 17), (false, 14)] (by kernel_rfl) (by kernel_rfl) (fun _ _ d _ _ h => by cases d <;> exact h) ?_
      have hb : Below V.heap.size V V.drew := (Below.refl _ _).drew
      iterate 6
        refine wpS_takeL rfl rfl ?_
        go_big_quiet_step (rfl)
        refine wpQuiet_nil ?_
      refine wpS_doL rfl ?_
      intro K hK
      go_wp2_with ((go_at_call 46; (first | (with_reducible refine (rWy_is ax ay bx b_y cx cy _ H1.out _).mono ?_) | (with_reducible refine (rWy_is ax ay bx b_y dx dy _ H2.out _).mono ?_) | (with_reducible refine (rWy_is cx cy dx dy ax ay _ H3.out _).mono ?_) | (with_reducible refine (rWy_is cx cy dx dy bx b_y _ H4.out _).mono ?_)); rintro e w2 ⟨rfl, hn⟩))
      replace hb := hb.trans (hn.mono hb.size)
      refine hK.out _ _ (up_iff.2 hb) ?_
      clear hK K
      clear hn
      refine wpS_doL rfl ?_
      intro K hK
      go_wp2_with ((go_at_call 46; (first | (with_reducible refine (rWy_is ax ay bx b_y cx cy _ H1.out _).mono ?_) | (with_reducible refine (rWy_is ax ay bx b_y dx dy _ H2.out _).mono ?_) | (with_reducible refine (rWy_is cx cy dx dy ax ay _ H3.out _).mono ?_) | (with_reducible refine (rWy_is cx cy dx dy bx b_y _ H4.out _).mono ?_)); rintro e w2 ⟨rfl, hn⟩))
      replace hb := hb.trans (hn.mono hb.size)
      refine hK.out _ _ (up_iff.2 hb) ?_
      clear hK K
      clear hn
      iterate 9
        refine wpS_takeL rfl rfl ?_
        go_big_quiet_step (rfl)
        refine wpQuiet_nil ?_
      refine wpS_doL rfl ?_
      intro K hK
      go_wp2_with ((go_at_call 46; (first | (with_reducible refine (rWy_is ax ay bx b_y cx cy _ H1.out _).mono ?_) | (with_reducible refine (rWy_is ax ay bx b_y dx dy _ H2.out _).mono ?_) | (with_reducible refine (rWy_is cx cy dx dy ax ay _ H3.out _).mono ?_) | (with_reducible refine (rWy_is cx cy dx dy bx b_y _ H4.out _).mono ?_)); rintro e w2 ⟨rfl, hn⟩))
      try replace hb := hb.trans (hn.mono hb.size)
      refine hK.out _ _ (up_iff.2 hb) ?_
      clear hK K
      try clear hn
      refine wpS_nil ?_
      simp only [List.drop_succ_cons, List.drop_zero]
      go_wp2_with fail
      refine (rWy_is cx cy dx dy bx b_y _ H4.out _).mono ?_
      rintro e w3 ⟨rfl, hn3⟩
      have hb3 := hb.trans (hn3.mono hb.size)
      clear hn3 hb
      go_wp2
      go_ret
      exact ⟨_, rfl, by decide, HB.out.trans (hb3.mono HB.out.size)⟩
    · skip
      refine wp_region_up V.heap.size 18 [(true, 0), (true, 1), (true, 2), (true, 4), (true, 5), (true, 6), (false, 3), (false, 7), (true, 8), (true, 9), (true, 10), (true, 11), (true, 12), (true, 13), (true, 15), (true, 16), (true, 17), (false, 14)] (by kernel_rfl) (by kernel_rfl) (fun _ _ d _ _ h => by cases d <;> exact h) ?_
      have hb : Below V.heap.size V V.drew := (Below.refl _ _).drew
      iterate 6
        refine wpS_takeL rfl rfl ?_
        go_big_quiet_step (rfl)
        refine wpQuiet_nil ?_
      refine wpS_doL rfl ?_
      intro K hK
      go_wp2_with ((go_at_call 46; (first | (with_reducible refine (rWy_is ax ay bx b_y cx cy _ H1.out _).mono ?_) | (with_reducible refine (rWy_is ax ay bx b_y dx dy _ H2.out _).mono ?_) | (with_reducible refine (rWy_is cx cy dx dy ax ay _ H3.out _).mono ?_) | (with_reducible refine (rWy_is cx cy dx dy bx b_y _ H4.out _).mono ?_)); rintro e w2 ⟨rfl, hn⟩))
      replace hb := hb.trans (hn.mono hb.size)
      refine hK.out _ _ (up_iff.2 hb) ?_
      clear hK K
      clear hn
      refine wpS_doL rfl ?_
      intro K hK
      go_wp2_with ((go_at_call 46; (first | (with_reducible refine (rWy_is ax ay bx b_y cx cy _ H1.out _).mono ?_) | (with_reducible refine (rWy_is ax ay bx b_y dx dy _ H2.out _).mono ?_) | (with_reducible refine (rWy_is cx cy dx dy ax ay _ H3.out _).mono ?_) | (with_reducible refine (rWy_is cx cy dx dy bx b_y _ H4.out _).mono ?_)); rintro e w2 ⟨rfl, hn⟩))
      replace hb := hb.trans (hn.mono hb.size)
      refine hK.out _ _ (up_iff.2 hb) ?_
      clear hK K
      clear hn
      iterate 9
        refine wpS_takeL rfl rfl ?_
        go_big_quiet_step (rfl)
        refine wpQuiet_nil ?_
      refine wpS_doL rfl ?_
      intro K hK
      go_wp2_with ((go_at_call 46; (first | (with_reducible refine (rWy_is ax ay bx b_y cx cy _ H1.out _).mono ?_) | (with_reducible refine (rWy_is ax ay bx b_y dx dy _ H2.out _).mono ?_) | (with_reducible refine (rWy_is cx cy dx dy ax ay _ H3.out _).mono ?_) | (with_reducible refine (rWy_is cx cy dx dy bx b_y _ H4.out _).mono ?_)); rintro e w2 ⟨rfl, hn⟩))
      try replace hb := hb.trans (hn.mono hb.size)
      refine hK.out _ _ (up_iff.2 hb) ?_
      clear hK K
      try clear hn
      refine wpS_nil ?_
      simp only [List.drop_succ_cons, List.drop_zero]
      go_wp2_with fail
      refine (rWy_is cx cy dx dy bx b_y _ H4.out _).mono ?_
      rintro e w3 ⟨rfl, hn3⟩
      have hb3 := hb.trans (hn3.mono hb.size)
      clear hn3 hb
      go_wp2
      go_ret
      exact ⟨_, rfl, by decide, HB.out.trans (hb3.mono HB.out.size)⟩
  · skip
    refine wp_region_up V.heap.size 18 [(true, 0), (true, 1), (true, 2), (true, 4), (true, 5), (true, 6), (false, 3), (false, 7), (true, 8), (true, 9), (true, 10), (true, 11), (true, 12), (true, 13), (true, 15), (true, 16), (true, 17), (false, 14)] (by kernel_rfl) (by kernel_rfl) (fun _ _ d _ _ h => by cases d <;> exact h) ?_
    have hb : Below V.heap.size V V.drew := (Below.refl _ _).drew
    iterate 6
      refine wpS_takeL rfl rfl ?_
      go_big_quiet_step (rfl)
      refine wpQuiet_nil ?_
    refine wpS_doL rfl ?_
    intro K hK
    go_wp2_with ((go_at_call 46; (first | (with_reducible refine (rWy_is ax ay bx b_y cx cy _ H1.out _).mono ?_) | (with_reducible refine (rWy_is ax ay bx b_y dx dy _ H2.out _).mono ?_) | (with_reducible refine (rWy_is cx cy dx dy ax ay _ H3.out _).mono ?_) | (with_reducible refine (rWy_is cx cy dx dy bx b_y _ H4.out _).mono ?_)); rintro e w2 ⟨rfl, hn⟩))
    replace hb := hb.trans (hn.mono hb.size)
    refine hK.out _ _ (up_iff.2 hb) ?_
    clear hK K
    clear hn
    refine wpS_doL rfl ?_
    intro K hK
    go_wp2_with ((go_at_call 46; (first | (with_reducible refine (rWy_is ax ay bx b_y cx cy _ H1.out _).mono ?_) | (with_reducible refine (rWy_is ax ay bx b_y dx dy _ H2.out _).mono ?_) | (with_reducible refine (rWy_is cx cy dx dy ax ay _ H3.out _).mono ?_) | (with_reducible refine (rWy_is cx cy dx dy bx b_y _ H4.out _).mono ?_)); rintro e w2 ⟨rfl, hn⟩))
    replace hb := hb.trans (hn.mono hb.size)
    refine hK.out _ _ (up_iff.2 hb) ?_
    clear hK K
    clear hn
    iterate 9
      refine wpS_takeL rfl rfl ?_
      go_big_quiet_step (rfl)
      refine wpQuiet_nil ?_
    refine wpS_doL rfl ?_
    intro K hK
    go_wp2_with ((go_at_call 46; (first | (with_reducible refine (rWy_is ax ay bx b_y cx cy _ H1.out _).mono ?_) | (with_reducible refine (rWy_is ax ay bx b_y dx dy _ H2.out _).mono ?_) | (with_reducible refine (rWy_is cx cy dx dy ax ay _ H3.out _).mono ?_) | (with_reducible refine (rWy_is cx cy dx dy bx b_y _ H4.out _).mono ?_)); rintro e w2 ⟨rfl, hn⟩))
    try replace hb := hb.trans (hn.mono hb.size)
    refine hK.out _ _ (up_iff.2 hb) ?_
    clear hK K
    try clear hn
    refine wpS_nil ?_
    simp only [List.drop_succ_cons, List.drop_zero]
    go_wp2
    go_ret
    exact ⟨_, rfl, ⟨fun h => (by cases h), fun h => absurd h.1 (by decide)⟩, HB.out.trans (hb.mono HB.out.size)⟩
  · skip
    refine wp_region_up V.heap.size 18 [(true, 0), (true, 1), (true, 2), (true, 4), (true, 5), (true, 6), (false, 3), (false, 7), (true, 8), (true, 9), (true, 10), (true, 11), (true, 12), (true, 13), (true, 15), (true, 16), (true, 17), (false, 14)] (by kernel_rfl) (by kernel_rfl) (fun _ _ d _ _ h => by cases d <;> exact h) ?_
    have hb : Below V.heap.size V V.drew := (Below.refl _ _).drew
    iterate 6
      refine wpS_takeL rfl rfl ?_
      go_big_quiet_step (rfl)
      refine wpQuiet_nil ?_
    refine wpS_doL rfl ?_
    intro K hK
    go_wp2_with ((go_at_call 46; (first | (with_reducible refine (rWy_is ax ay bx b_y cx cy _ H1.out _).mono ?_) | (with_reducible refine (rWy_is ax ay bx b_y dx dy _ H2.out _).mono ?_) | (with_reducible refine (rWy_is cx cy dx dy ax ay _ H3.out _).mono ?_) | (with_reducible refine (rWy_is cx cy dx dy bx b_y _ H4.out _).mono ?_)); rintro e w2 ⟨rfl, hn⟩))
    replace hb := hb.trans (hn.mono hb.size)
    refine hK.out _ _ (up_iff.2 hb) ?_
    clear hK K
    clear hn
    refine wpS_doL rfl ?_
    intro K hK
    go_wp2_with ((go_at_call 46; (first | (with_reducible refine (rWy_is ax ay bx b_y cx cy _ H1.out _).mono ?_) | (with_reducible refine (rWy_is ax ay bx b_y dx dy _ H2.out _).mono ?_) | (with_reducible refine (rWy_is cx cy dx dy ax ay _ H3.out _).mono ?_) | (with_reducible refine (rWy_is cx cy dx dy bx b_y _ H4.out _).mono ?_)); rintro e w2 ⟨rfl, hn⟩))
    replace hb := hb.trans (hn.mono hb.size)
    refine hK.out _ _ (up_iff.2 hb) ?_
    clear hK K
    clear hn
    iterate 9
      refine wpS_takeL rfl rfl ?_
      go_big_quiet_step (rfl)
      refine wpQuiet_nil ?_
    refine wpS_doL rfl ?_
    intro K hK
    go_wp2_with ((go_at_call 46; (first | (with_reducible refine (rWy_is ax ay bx b_y cx cy _ H1.out _).mono ?_) | (with_reducible refine (rWy_is ax ay bx b_y dx dy _ H2.out _).mono ?_) | (with_reducible refine (rWy_is cx cy dx dy ax ay _ H3.out _).mono ?_) | (with_reducible refine (rWy_is cx cy dx dy bx b_y _ H4.out _).mono ?_)); rintro e w2 ⟨rfl, hn⟩))
    try replace hb := hb.trans (hn.mono hb.size)
    refine hK.out _ _ (up_iff.2 hb) ?_
    clear hK K
    try clear hn
    refine wpS_nil ?_
    simp only [List.drop_succ_cons, List.drop_zero]
    go_wp2
    go_ret
    exact ⟨_, rfl, ⟨fun h => (by cases h), fun h => absurd h.1 (by decide)⟩, HB.out.trans (hb.mono HB.out.size)⟩
end Go.Proofs.Ytdlpfiiakmhnlaa

namespace Go.Proofs.Ytdlpfiiakmhnlaa
open Go.RowKit

/-- a corner -/
def cr (x : Tri3) (i : Nat) : Nat := if i = 0 then x.1 else if i = 1 then x.2.1 else x.2.2
/-- how many corners are alike, up to a pair of places -/
def mq (x y : Tri3) : Nat → Nat
  | 0 => 0
  | n + 1 => mq x y n + if cr x (n / 3) = cr y (n % 3) then 1 else 0
theorem mq_le (x y : Tri3) : ∀ n, mq x y n ≤ n
  | 0 => Nat.le_refl _
  | n + 1 => by
    show mq x y n + _ ≤ n + 1
    have := mq_le x y n
    split <;> omega
theorem mq_yes {x y : Tri3} {n p q : Nat} (h1 : cr x (n / 3) = p) (h2 : cr y (n % 3) = q) (h : p = q) : mq x y (n + 1) = mq x y n + 1 := by
  show mq x y n + _ = _
  rw [if_pos (by rw [h1, h2]; exact h)]
theorem mq_no {x y : Tri3} {n p q : Nat} (h1 : cr x (n / 3) = p) (h2 : cr y (n % 3) = q) (h : ¬ p = q) : mq x y (n + 1) = mq x y n := by
  show mq x y n + _ = _
  rw [if_neg (by rw [h1, h2]; exact h)]; rfl
/-- two triangles do not meet -/
structure NoM (X Y : Nat → Int) (x y : Tri3) : Prop where
  fac : ∀ i k, i < 3 → k < 3 → ¬ (wy X Y (cr x i) (cr x ((i + 1) % 3)) (cr y k) * wy X Y (cr x i) (cr x ((i + 1) % 3)) (cr y ((k + 1) % 3)) < 0 ∧ wy X Y (cr y k) (cr y ((k + 1) % 3)) (cr x i) * wy X Y (cr y k) (cr y ((k + 1) % 3)) (cr x ((i + 1) % 3)) < 0)
  sid : ∀ i k, i < 3 → k < 3 → ¬ (cr x i = cr y k ∧ cr x ((i + 1) % 3) = cr y ((k + 1) % 3))
  all : mq x y 9 ≠ 3
theorem Facing_no (X Y : Nat → Int) (a b c d : Nat) (h : ¬ (wy X Y a b c * wy X Y a b d < 0 ∧ wy X Y c d a * wy X Y c d b < 0)) (w : World) :
    Calls Try.prog 37 #[pI (X a) (Y a), pI (X b) (Y b), pI (X c) (Y c), pI (X d) (Y d)] w fun e w' => e = .returned (.bool false) ∧ Below w.heap.size w w' := by
  refine (Facing_is (X a) (Y a) (X b) (Y b) (X c) (Y c) (X d) (Y d) _ _ _ _ rfl rfl rfl rfl w).mono ?_
  rintro e w' ⟨q, rfl, hq, hb⟩
  cases q with
  | false => exact ⟨rfl, hb⟩
  | true => exact absurd (hq.1 rfl) h
theorem cr_cell (x : Tri3) {i : Nat} (hi : i < 3) : (#[.int .i64 (x.1 : Nat), .int .i64 (x.2.1 : Nat), .int .i64 (x.2.2 : Nat)] : Array Value)[i]? = some (.int .i64 (cr x i : Nat)) := by
  rcases (show i = 0 ∨ i = 1 ∨ i = 2 by omega) with rfl | rfl | rfl <;> rfl
theorem cr_lt {x : Tri3} {N : Nat} (h : x.1 < N ∧ x.2.1 < N ∧ x.2.2 < N) (i : Nat) : cr x i < N := by
  unfold cr
  split
  · exact h.1
  · split
    · exact h.2.1
    · exact h.2.2
theorem tmod3 (i j : Nat) (h : (i + 1) % 3 = j) : Int.tmod ((i : Int) + 1) 3 = (j : Int) := by
  rw [Int.tmod_eq_emod_of_nonneg (by omega)]; omega
set_option maxRecDepth 100000 in
set_option maxHeartbeats 8000000 in
theorem meet_no (po : Option Addr) (N pc : Nat) (X Y : Nat → Int) (x0 x1 x2 y0 y1 y2 : Nat) (w : World) (hP : Pts w po N pc X Y) (hN : N ≤ 4096) (hx0 : x0 < N) (hx1 : x1 < N) (hx2 : x2 < N) (hy0 : y0 < N) (hy1 : y1 < N) (hy2 : y2 < N)
    (hM : NoM X Y (x0, x1, x2) (y0, y1, y2)) :
    Calls Try.prog 58 #[.slice po N pc, tI (x0 : Nat) (x1 : Nat) (x2 : Nat), tI (y0 : Nat) (y1 : Nat) (y2 : Nat)] w fun e w' => e = .returned (.bool false) ∧ Below w.heap.size w w' := by
  have HP := Lib.hid hP
  have HM := Lib.hid hM
  have hpcl := hP.capl
  have hpcb := hP.capb
  clear hP hM
  go_enter Try.func58, Try.ntmps58
  go_wp2_with fail
  refine name_world ?_
  intro V hV
  have hb0 : Below w.heap.size w V := by rw [hV]; exact below_a2 _ _ _
  have ka : Blk V w.heap.size #[.int .i64 (x0 : Nat), .int .i64 (x1 : Nat), .int .i64 (x2 : Nat)] 35 := by rw [hV]; exact (Blk.new _ _ _).of (below_a1 _ _)
  have kb : Blk V (w.heap.size + 1) #[.int .i64 (y0 : Nat), .int .i64 (y1 : Nat), .int .i64 (y2 : Nat)] 35 := by rw [hV]; have := Blk.new (w.alloc (.cells #[.int .i64 (x0 : Nat), .int .i64 (x1 : Nat), .int .i64 (x2 : Nat)] 35)) #[.int .i64 (y0 : Nat), .int .i64 (y1 : Nat), .int .i64 (y2 : Nat)] 35; simpa using this
  obtain ⟨ab, eab⟩ : ∃ b, w.heap.size = b := ⟨_, rfl⟩
  obtain ⟨bb, ebb⟩ : ∃ b, w.heap.size + 1 = b := ⟨_, rfl⟩
  rw [ebb] at kb
  rw [eab] at ka
  rw [ebb, eab]
  have KA := Lib.hid ka
  have KB := Lib.hid kb
  have BV := Lib.hid hb0
  have hws : w.heap.size = ab := eab
  clear hV hb0 ka kb eab ebb
  go_wp2_with fail
  go_loopg [7, 8] 3 (fun gk s7 s8 wr => ∃ i : Nat, s8 = .int .i64 (i : Nat) ∧ s7 = .int .i64 (mq (x0, x1, x2) (y0, y1, y2) (3 * i) : Nat) ∧ i ≤ 3 ∧ 3 - i ≤ gk ∧ Hid (Below V.heap.size V wr))
  case atStart => exact ⟨0, rfl, rfl, by omega, by omega, Lib.hid (Below.refl _ _)⟩
  case round =>
    obtain ⟨i, rfl, rfl, hi, hgi, HV⟩ := hrel
    by_cases hi3 : i < 3
    · have hi0 : ((i : Nat) : Int) < 3 := by omega
      go_wp2_with fail
      go_loopg [7, 9] 3 (fun gk s7 s9 wr2 => ∃ k : Nat, s9 = .int .i64 (k : Nat) ∧ s7 = .int .i64 (mq (x0, x1, x2) (y0, y1, y2) (3 * i + k) : Nat) ∧ k ≤ 3 ∧ 3 - k ≤ gk ∧ Hid (Below V.heap.size V wr2))
      case atStart => exact ⟨0, rfl, rfl, by omega, by omega, HV⟩
      case round =>
        clear HV
        obtain ⟨k, rfl, rfl, hk, hgk, HV2⟩ := hrel
        by_cases hk3 : k < 3
        · clear hi hk
          obtain ⟨P, eP⟩ : ∃ P, cr (x0, x1, x2) i = P := ⟨_, rfl⟩
          obtain ⟨R, eR⟩ : ∃ P, cr (y0, y1, y2) k = P := ⟨_, rfl⟩
          obtain ⟨I1, eI⟩ : ∃ P, (i + 1) % 3 = P := ⟨_, rfl⟩
          obtain ⟨K1, eK⟩ : ∃ P, (k + 1) % 3 = P := ⟨_, rfl⟩
          obtain ⟨Q, eQ⟩ : ∃ P, cr (x0, x1, x2) I1 = P := ⟨_, rfl⟩
          obtain ⟨S, eS⟩ : ∃ P, cr (y0, y1, y2) K1 = P := ⟨_, rfl⟩
          have hI3 : I1 < 3 := by omega
          have hK3 : K1 < 3 := by omega
          have ti := tmod3 i I1 eI
          have tk := tmod3 k K1 eK
          have lP : P < N := by rw [← eP]; exact cr_lt ⟨hx0, hx1, hx2⟩ _
          have lQ : Q < N := by rw [← eQ]; exact cr_lt ⟨hx0, hx1, hx2⟩ _
          have lR : R < N := by rw [← eR]; exact cr_lt ⟨hy0, hy1, hy2⟩ _
          have lS : S < N := by rw [← eS]; exact cr_lt ⟨hy0, hy1, hy2⟩ _
          have EI := Lib.hid (And.intro eI eK)
          have EQ := Lib.hid (show cr (x0, x1, x2) i = P ∧ cr (x0, x1, x2) I1 = Q ∧ cr (y0, y1, y2) k = R ∧ cr (y0, y1, y2) K1 = S from ⟨eP, eQ, eR, eS⟩)
          clear eP eQ eR eS eI eK
          obtain ⟨c, hc⟩ : ∃ c, mq (x0, x1, x2) (y0, y1, y2) (3 * i + k) = c := ⟨_, rfl⟩
          rw [hc]
          have hc9 : c ≤ 9 := by have := mq_le (x0, x1, x2) (y0, y1, y2) (3 * i + k); omega
          have HC := Lib.hid hc
          clear hc
          have HVW := HV2
          clear HV2
          have hka := KA.out.of HVW.out
          have hkb := KB.out.of HVW.out
          obtain ⟨pa, rfl, hpt⟩ := (HP.out.of (BV.out.trans (HVW.out.mono BV.out.size))).atP (by omega)
          have f0 : ∀ u : UpTo wr.heap.size wr, u.w.cell? ⟨ab, i, none⟩ = some (.int .i64 (P : Nat)) := fun u => ((hka.of u.below).cell i).trans (EQ.out.1 ▸ cr_cell (x0, x1, x2) hi3)
          have f1 : ∀ u : UpTo wr.heap.size wr, u.w.cell? ⟨ab, I1, none⟩ = some (.int .i64 (Q : Nat)) := fun u => ((hka.of u.below).cell I1).trans (EQ.out.2.1 ▸ cr_cell (x0, x1, x2) hI3)
          have g0 : ∀ u : UpTo wr.heap.size wr, u.w.cell? ⟨bb, k, none⟩ = some (.int .i64 (R : Nat)) := fun u => ((hkb.of u.below).cell k).trans (EQ.out.2.2.1 ▸ cr_cell (y0, y1, y2) hk3)
          have g1 : ∀ u : UpTo wr.heap.size wr, u.w.cell? ⟨bb, K1, none⟩ = some (.int .i64 (S : Nat)) := fun u => ((hkb.of u.below).cell K1).trans (EQ.out.2.2.2 ▸ cr_cell (y0, y1, y2) hK3)
          have la := hka.lt
          have lb := hkb.lt
          have KAW := Lib.hid hka
          have KBW := Lib.hid hkb
          have HPT := Lib.hid hpt
          clear hka hkb hpt
          by_cases he : P = R
          · have HE := Lib.hid he
            have hq1 : (((P : Nat) : Int) == ((R : Nat) : Int)) = true := by rw [he]; simp
            have hq2 : ((P : Nat) == (R : Nat)) = true := by simpa using he
            have hq3 : decide ((P : Nat) = (R : Nat)) = true := by simpa using he
            clear he
            go_wp2_with fail
            refine wp_region_up wr.heap.size 6 [(true, 0), (true, 1), (true, 2), (true, 3), (true, 4), (true, 5)] (by kernel_rfl) (by kernel_rfl) (fun _ _ d _ _ h => by cases d <;> exact h) ?_
            have hb : Below wr.heap.size wr wr.drew := (Below.refl _ _).drew
            iterate 6
              refine wpS_takeL rfl rfl ?_
              go_big_quiet_step (rfl)
              refine wpQuiet_nil ?_
            refine wpS_nil ?_
            simp only [List.drop_succ_cons, List.drop_zero]
            have h0 := ((KAW.out.of hb).cell i).trans (EQ.out.1 ▸ cr_cell (x0, x1, x2) hi3)
            have h1 := ((KBW.out.of hb).cell k).trans (EQ.out.2.2.1 ▸ cr_cell (y0, y1, y2) hk3)
            have lh0 := (KAW.out.of hb).lt
            have lh1 := (KBW.out.of hb).lt
            clear f0 f1 g0 g1
            go_wp2_with fail
            clear h0 h1 lh0 lh1 la lb
            refine name_world ?_
            intro W1 hW1
            have HVW1 := Lib.hid (show Below V.heap.size V W1 by rw [hW1]; exact HVW.out.trans (hb.mono HVW.out.size))
            clear hW1 hb HVW KAW KBW
            have hka := KA.out.of HVW1.out
            have hkb := KB.out.of HVW1.out
            obtain ⟨pb, epb, hpt⟩ := (HP.out.of (BV.out.trans (HVW1.out.mono BV.out.size))).atP (by omega)
            injection epb with epb
            subst epb
            have f0 : ∀ u : UpTo W1.heap.size W1, u.w.cell? ⟨ab, i, none⟩ = some (.int .i64 (P : Nat)) := fun u => ((hka.of u.below).cell i).trans (EQ.out.1 ▸ cr_cell (x0, x1, x2) hi3)
            have f1 : ∀ u : UpTo W1.heap.size W1, u.w.cell? ⟨ab, I1, none⟩ = some (.int .i64 (Q : Nat)) := fun u => ((hka.of u.below).cell I1).trans (EQ.out.2.1 ▸ cr_cell (x0, x1, x2) hI3)
            have g0 : ∀ u : UpTo W1.heap.size W1, u.w.cell? ⟨bb, k, none⟩ = some (.int .i64 (R : Nat)) := fun u => ((hkb.of u.below).cell k).trans (EQ.out.2.2.1 ▸ cr_cell (y0, y1, y2) hk3)
            have g1 : ∀ u : UpTo W1.heap.size W1, u.w.cell? ⟨bb, K1, none⟩ = some (.int .i64 (S : Nat)) := fun u => ((hkb.of u.below).cell K1).trans (EQ.out.2.2.2 ▸ cr_cell (y0, y1, y2) hK3)
            have la := hka.lt
            have lb := hkb.lt
            have qp := hpt P lP
            have qq := hpt Q lQ
            have qr := hpt R lR
            have qs := hpt S lS
            have qp0 := fun u => (qp u).1
            have qp1 := fun u => (qp u).2
            have qq0 := fun u => (qq u).1
            have qq1 := fun u => (qq u).2
            have qr0 := fun u => (qr u).1
            have qr1 := fun u => (qr u).2
            have qs0 := fun u => (qs u).1
            have qs1 := fun u => (qs u).2
            clear hka hkb hpt qp qq qr qs
            have hF0 := HM.out.fac i k (by omega) (by omega)
            rw [EI.out.1, EI.out.2, EQ.out.1, EQ.out.2.1, EQ.out.2.2.1, EQ.out.2.2.2] at hF0
            have HF := Lib.hid hF0
            clear hF0
            refine wp_region_up W1.heap.size 28 [(true, 0), (true, 1), (true, 2), (true, 3), (true, 4), (true, 5), (true, 6), (true, 7), (true, 8), (true, 9), (true, 10), (true, 11), (true, 12), (true, 13), (true, 14), (true, 15), (true, 16), (true, 17), (true, 18), (true, 19), (true, 20), (true, 21), (true, 22), (true, 23), (true, 24), (true, 25), (true, 26), (true, 27)] (by kernel_rfl) (by kernel_rfl) (fun _ _ d _ _ h => by cases d <;> exact h) ?_
            have hb : Below W1.heap.size W1 W1.drew := (Below.refl _ _).drew
            iterate 28
              refine wpS_takeL rfl rfl ?_
              go_big_quiet_step (rfl)
              refine wpQuiet_nil ?_
            refine wpS_nil ?_
            simp only [List.drop_succ_cons, List.drop_zero]
            clear f0 f1 g0 g1 la lb qp0 qp1 qq0 qq1 qr0 qr1 qs0 qs1
            go_wp2_with fail
            refine (Facing_no X Y P Q R S HF.out _).mono ?_
            rintro e w2 ⟨rfl, hn⟩
            replace hb := hb.trans (hn.mono hb.size)
            clear hn
            go_wp2_with fail
            refine name_world ?_
            intro W2 hW2
            have HVW2 := Lib.hid (show Below V.heap.size V W2 by rw [hW2]; exact HVW1.out.trans (hb.mono HVW1.out.size))
            clear hW2 hb HVW1
            have hka := KA.out.of HVW2.out
            have hkb := KB.out.of HVW2.out
            obtain ⟨pb, epb, hpt⟩ := (HP.out.of (BV.out.trans (HVW2.out.mono BV.out.size))).atP (by omega)
            injection epb with epb
            subst epb
            have f0 : ∀ u : UpTo W2.heap.size W2, u.w.cell? ⟨ab, i, none⟩ = some (.int .i64 (P : Nat)) := fun u => ((hka.of u.below).cell i).trans (EQ.out.1 ▸ cr_cell (x0, x1, x2) hi3)
            have f1 : ∀ u : UpTo W2.heap.size W2, u.w.cell? ⟨ab, I1, none⟩ = some (.int .i64 (Q : Nat)) := fun u => ((hka.of u.below).cell I1).trans (EQ.out.2.1 ▸ cr_cell (x0, x1, x2) hI3)
            have g0 : ∀ u : UpTo W2.heap.size W2, u.w.cell? ⟨bb, k, none⟩ = some (.int .i64 (R : Nat)) := fun u => ((hkb.of u.below).cell k).trans (EQ.out.2.2.1 ▸ cr_cell (y0, y1, y2) hk3)
            have g1 : ∀ u : UpTo W2.heap.size W2, u.w.cell? ⟨bb, K1, none⟩ = some (.int .i64 (S : Nat)) := fun u => ((hkb.of u.below).cell K1).trans (EQ.out.2.2.2 ▸ cr_cell (y0, y1, y2) hK3)
            have la := hka.lt
            have lb := hkb.lt
            have qp := hpt P lP
            have qq := hpt Q lQ
            have qr := hpt R lR
            have qs := hpt S lS
            have qp0 := fun u => (qp u).1
            have qp1 := fun u => (qp u).2
            have qq0 := fun u => (qq u).1
            have qq1 := fun u => (qq u).2
            have qr0 := fun u => (qr u).1
            have qr1 := fun u => (qr u).2
            have qs0 := fun u => (qs u).1
            have qs1 := fun u => (qs u).2
            clear hka hkb hpt qp qq qr qs
            clear qp0 qp1 qq0 qq1 qr0 qr1 qs0 qs1
            have hz := HM.out.sid i k (by omega) (by omega)
            rw [EI.out.1, EI.out.2, EQ.out.1, EQ.out.2.1, EQ.out.2.2.1, EQ.out.2.2.2] at hz
            have hz2 : ¬ Q = S := fun e => hz ⟨HE.out, e⟩
            have hz4 : (((Q : Nat) : Int) == ((S : Nat) : Int)) = false := by simp; omega
            have hz5 : ((Q : Nat) == (S : Nat)) = false := by simpa using hz2
            have hz6 : decide ((Q : Nat) = (S : Nat)) = false := by simpa using hz2
            clear hz hz2
            refine wp_region_up W2.heap.size 18 [(true, 0), (true, 1), (true, 2), (true, 3), (true, 4), (true, 5), (true, 6), (true, 7), (true, 8), (true, 9), (true, 10), (true, 11), (true, 12), (true, 13), (true, 14), (true, 15), (true, 16), (true, 17)] (by kernel_rfl) (by kernel_rfl) (fun _ _ d _ _ h => by cases d <;> exact h) ?_
            have hb : Below W2.heap.size W2 W2.drew := (Below.refl _ _).drew
            iterate 18
              refine wpS_takeL rfl rfl ?_
              go_big_quiet_step (rfl)
              refine wpQuiet_nil ?_
            refine wpS_nil ?_
            simp only [List.drop_succ_cons, List.drop_zero]
            have h0 := (KA.out.of (HVW2.out.trans (hb.mono HVW2.out.size))).cell i |>.trans (EQ.out.1 ▸ cr_cell (x0, x1, x2) hi3)
            have h1 := (KB.out.of (HVW2.out.trans (hb.mono HVW2.out.size))).cell k |>.trans (EQ.out.2.2.1 ▸ cr_cell (y0, y1, y2) hk3)
            have h2 := (KA.out.of (HVW2.out.trans (hb.mono HVW2.out.size))).cell I1 |>.trans (EQ.out.2.1 ▸ cr_cell (x0, x1, x2) hI3)
            have h3 := (KB.out.of (HVW2.out.trans (hb.mono HVW2.out.size))).cell K1 |>.trans (EQ.out.2.2.2 ▸ cr_cell (y0, y1, y2) hK3)
            have l0 := (KA.out.of (HVW2.out.trans (hb.mono HVW2.out.size))).lt
            have l1 := (KB.out.of (HVW2.out.trans (hb.mono HVW2.out.size))).lt
            have HV9 := Lib.hid (HVW2.out.trans (hb.mono HVW2.out.size))
            clear f0 f1 g0 g1 la lb hb HVW2
            go_wp2_with fail
            go_roundg (3 - (k + 1))
            case measure => omega
            case rel =>
              refine ⟨k + 1, by norm_cast, ?_, by omega, Nat.le_refl _, HV9⟩
              rw [show 3 * i + (k + 1) = (3 * i + k) + 1 from rfl, mq_yes (p := P) (q := R) (by rw [show (3 * i + k) / 3 = i by omega]; exact EQ.out.1) (by rw [show (3 * i + k) % 3 = k by omega]; exact EQ.out.2.2.1) HE.out, HC.out]
              show Value.int .i64 ((c : Int) + 1) = .int .i64 ((c + 1 : Nat) : Int)
              norm_cast
          · have HE := Lib.hid he
            have hq1 : (((P : Nat) : Int) == ((R : Nat) : Int)) = false := by simp; omega
            have hq2 : ((P : Nat) == (R : Nat)) = false := by simpa using he
            have hq3 : decide ((P : Nat) = (R : Nat)) = false := by simpa using he
            clear he
            go_wp2_with fail
            refine wp_region_up wr.heap.size 6 [(true, 0), (true, 1), (true, 2), (true, 3), (true, 4), (true, 5)] (by kernel_rfl) (by kernel_rfl) (fun _ _ d _ _ h => by cases d <;> exact h) ?_
            have hb : Below wr.heap.size wr wr.drew := (Below.refl _ _).drew
            iterate 6
              refine wpS_takeL rfl rfl ?_
              go_big_quiet_step (rfl)
              refine wpQuiet_nil ?_
            refine wpS_nil ?_
            simp only [List.drop_succ_cons, List.drop_zero]
            have h0 := ((KAW.out.of hb).cell i).trans (EQ.out.1 ▸ cr_cell (x0, x1, x2) hi3)
            have h1 := ((KBW.out.of hb).cell k).trans (EQ.out.2.2.1 ▸ cr_cell (y0, y1, y2) hk3)
            have lh0 := (KAW.out.of hb).lt
            have lh1 := (KBW.out.of hb).lt
            clear f0 f1 g0 g1
            go_wp2_with fail
            clear h0 h1 lh0 lh1 la lb
            refine name_world ?_
            intro W1 hW1
            have HVW1 := Lib.hid (show Below V.heap.size V W1 by rw [hW1]; exact HVW.out.trans (hb.mono HVW.out.size))
            clear hW1 hb HVW KAW KBW
            have hka := KA.out.of HVW1.out
            have hkb := KB.out.of HVW1.out
            obtain ⟨pb, epb, hpt⟩ := (HP.out.of (BV.out.trans (HVW1.out.mono BV.out.size))).atP (by omega)
            injection epb with epb
            subst epb
            have f0 : ∀ u : UpTo W1.heap.size W1, u.w.cell? ⟨ab, i, none⟩ = some (.int .i64 (P : Nat)) := fun u => ((hka.of u.below).cell i).trans (EQ.out.1 ▸ cr_cell (x0, x1, x2) hi3)
            have f1 : ∀ u : UpTo W1.heap.size W1, u.w.cell? ⟨ab, I1, none⟩ = some (.int .i64 (Q : Nat)) := fun u => ((hka.of u.below).cell I1).trans (EQ.out.2.1 ▸ cr_cell (x0, x1, x2) hI3)
            have g0 : ∀ u : UpTo W1.heap.size W1, u.w.cell? ⟨bb, k, none⟩ = some (.int .i64 (R : Nat)) := fun u => ((hkb.of u.below).cell k).trans (EQ.out.2.2.1 ▸ cr_cell (y0, y1, y2) hk3)
            have g1 : ∀ u : UpTo W1.heap.size W1, u.w.cell? ⟨bb, K1, none⟩ = some (.int .i64 (S : Nat)) := fun u => ((hkb.of u.below).cell K1).trans (EQ.out.2.2.2 ▸ cr_cell (y0, y1, y2) hK3)
            have la := hka.lt
            have lb := hkb.lt
            have qp := hpt P lP
            have qq := hpt Q lQ
            have qr := hpt R lR
            have qs := hpt S lS
            have qp0 := fun u => (qp u).1
            have qp1 := fun u => (qp u).2
            have qq0 := fun u => (qq u).1
            have qq1 := fun u => (qq u).2
            have qr0 := fun u => (qr u).1
            have qr1 := fun u => (qr u).2
            have qs0 := fun u => (qs u).1
            have qs1 := fun u => (qs u).2
            clear hka hkb hpt qp qq qr qs
            have hF0 := HM.out.fac i k (by omega) (by omega)
            rw [EI.out.1, EI.out.2, EQ.out.1, EQ.out.2.1, EQ.out.2.2.1, EQ.out.2.2.2] at hF0
            have HF := Lib.hid hF0
            clear hF0
            refine wp_region_up W1.heap.size 28 [(true, 0), (true, 1), (true, 2), (true, 3), (true, 4), (true, 5), (true, 6), (true, 7), (true, 8), (true, 9), (true, 10), (true, 11), (true, 12), (true, 13), (true, 14), (true, 15), (true, 16), (true, 17), (true, 18), (true, 19), (true, 20), (true, 21), (true, 22), (true, 23), (true, 24), (true, 25), (true, 26), (true, 27)] (by kernel_rfl) (by kernel_rfl) (fun _ _ d _ _ h => by cases d <;> exact h) ?_
            have hb : Below W1.heap.size W1 W1.drew := (Below.refl _ _).drew
            iterate 28
              refine wpS_takeL rfl rfl ?_
              go_big_quiet_step (rfl)
              refine wpQuiet_nil ?_
            refine wpS_nil ?_
            simp only [List.drop_succ_cons, List.drop_zero]
            clear f0 f1 g0 g1 la lb qp0 qp1 qq0 qq1 qr0 qr1 qs0 qs1
            go_wp2_with fail
            refine (Facing_no X Y P Q R S HF.out _).mono ?_
            rintro e w2 ⟨rfl, hn⟩
            replace hb := hb.trans (hn.mono hb.size)
            clear hn
            go_wp2_with fail
            refine name_world ?_
            intro W2 hW2
            have HVW2 := Lib.hid (show Below V.heap.size V W2 by rw [hW2]; exact HVW1.out.trans (hb.mono HVW1.out.size))
            clear hW2 hb HVW1
            have hka := KA.out.of HVW2.out
            have hkb := KB.out.of HVW2.out
            obtain ⟨pb, epb, hpt⟩ := (HP.out.of (BV.out.trans (HVW2.out.mono BV.out.size))).atP (by omega)
            injection epb with epb
            subst epb
            have f0 : ∀ u : UpTo W2.heap.size W2, u.w.cell? ⟨ab, i, none⟩ = some (.int .i64 (P : Nat)) := fun u => ((hka.of u.below).cell i).trans (EQ.out.1 ▸ cr_cell (x0, x1, x2) hi3)
            have f1 : ∀ u : UpTo W2.heap.size W2, u.w.cell? ⟨ab, I1, none⟩ = some (.int .i64 (Q : Nat)) := fun u => ((hka.of u.below).cell I1).trans (EQ.out.2.1 ▸ cr_cell (x0, x1, x2) hI3)
            have g0 : ∀ u : UpTo W2.heap.size W2, u.w.cell? ⟨bb, k, none⟩ = some (.int .i64 (R : Nat)) := fun u => ((hkb.of u.below).cell k).trans (EQ.out.2.2.1 ▸ cr_cell (y0, y1, y2) hk3)
            have g1 : ∀ u : UpTo W2.heap.size W2, u.w.cell? ⟨bb, K1, none⟩ = some (.int .i64 (S : Nat)) := fun u => ((hkb.of u.below).cell K1).trans (EQ.out.2.2.2 ▸ cr_cell (y0, y1, y2) hK3)
            have la := hka.lt
            have lb := hkb.lt
            have qp := hpt P lP
            have qq := hpt Q lQ
            have qr := hpt R lR
            have qs := hpt S lS
            have qp0 := fun u => (qp u).1
            have qp1 := fun u => (qp u).2
            have qq0 := fun u => (qq u).1
            have qq1 := fun u => (qq u).2
            have qr0 := fun u => (qr u).1
            have qr1 := fun u => (qr u).2
            have qs0 := fun u => (qs u).1
            have qs1 := fun u => (qs u).2
            clear hka hkb hpt qp qq qr qs
            clear qp0 qp1 qq0 qq1 qr0 qr1 qs0 qs1
            refine wp_region_up W2.heap.size 18 [(true, 0), (true, 1), (true, 2), (true, 3), (true, 4), (true, 5), (true, 6), (true, 7), (true, 8), (true, 9), (true, 10), (true, 11), (true, 12), (true, 13), (true, 14), (true, 15), (true, 16), (true, 17)] (by kernel_rfl) (by kernel_rfl) (fun _ _ d _ _ h => by cases d <;> exact h) ?_
            have hb : Below W2.heap.size W2 W2.drew := (Below.refl _ _).drew
            iterate 18
              refine wpS_takeL rfl rfl ?_
              go_big_quiet_step (rfl)
              refine wpQuiet_nil ?_
            refine wpS_nil ?_
            simp only [List.drop_succ_cons, List.drop_zero]
            have h0 := (KA.out.of (HVW2.out.trans (hb.mono HVW2.out.size))).cell i |>.trans (EQ.out.1 ▸ cr_cell (x0, x1, x2) hi3)
            have h1 := (KB.out.of (HVW2.out.trans (hb.mono HVW2.out.size))).cell k |>.trans (EQ.out.2.2.1 ▸ cr_cell (y0, y1, y2) hk3)
            have h2 := (KA.out.of (HVW2.out.trans (hb.mono HVW2.out.size))).cell I1 |>.trans (EQ.out.2.1 ▸ cr_cell (x0, x1, x2) hI3)
            have h3 := (KB.out.of (HVW2.out.trans (hb.mono HVW2.out.size))).cell K1 |>.trans (EQ.out.2.2.2 ▸ cr_cell (y0, y1, y2) hK3)
            have l0 := (KA.out.of (HVW2.out.trans (hb.mono HVW2.out.size))).lt
            have l1 := (KB.out.of (HVW2.out.trans (hb.mono HVW2.out.size))).lt
            have HV9 := Lib.hid (HVW2.out.trans (hb.mono HVW2.out.size))
            clear f0 f1 g0 g1 la lb hb HVW2
            go_wp2_with fail
            go_roundg (3 - (k + 1))
            case measure => omega
            case rel =>
              refine ⟨k + 1, by norm_cast, ?_, by omega, Nat.le_refl _, HV9⟩
              rw [show 3 * i + (k + 1) = (3 * i + k) + 1 from rfl, mq_no (p := P) (q := R) (by rw [show (3 * i + k) / 3 = i by omega]; exact EQ.out.1) (by rw [show (3 * i + k) % 3 = k by omega]; exact EQ.out.2.2.1) HE.out, HC.out]
        · have hk9 : k = 3 := by omega
          subst hk9
          go_wp2_with fail
          go_roundg (3 - (i + 1))
          case measure => omega
          case rel => exact ⟨i + 1, by norm_cast, by rw [show 3 * (i + 1) = 3 * i + 3 from rfl], by omega, Nat.le_refl _, HV2⟩
    · have hi9 : i = 3 := by omega
      subst hi9
      obtain ⟨c, hc⟩ : ∃ c, mq (x0, x1, x2) (y0, y1, y2) (3 * 3) = c := ⟨_, rfl⟩
      rw [hc]
      have hc3 : ¬ c = 3 := fun e => HM.out.all (hc.trans e)
      have hz4 : ((c : Int) == 3) = false := by simp; omega
      have HB := Lib.hid (BV.out.trans (HV.out.mono BV.out.size))
      clear hc hc3
      go_wp2
      go_ret
      exact ⟨rfl, HB.out⟩
end Go.Proofs.Ytdlpfiiakmhnlaa

namespace Go.Proofs.Ytdlpfiiakmhnlaa
open Go.RowKit
attribute [local go_sem] undef

def nxI (z i : Nat) : Int := if z < i then (z : Int) else -1
theorem nxI_up {z i : Nat} (h : i = z) : nxI z (i + 1) = (i : Int) := by unfold nxI; rw [if_pos (by omega), h]
theorem nxI_st {z i : Nat} (h : i ≠ z) : nxI z (i + 1) = nxI z i := by
  unfold nxI
  by_cases h1 : z < i
  · rw [if_pos h1, if_pos (by omega)]
  · rw [if_neg h1, if_neg (by omega)]
theorem NL.own2 {w : World} {base : Nat} {v : Value} {L : List Nat} (h : NL w base v L) {g : Nat} (hg : v.ownBlock = some g) : base ≤ g ∧ g < w.heap.size := World.ownsRow.lt h g hg
theorem NL.cnt {w : World} {base : Nat} {ao : Option Addr} {n cap : Nat} {L : List Nat} (h : NL w base (.slice ao n cap) L) : n = L.length := by
  obtain ⟨a, c, e, _⟩ := h.val
  injection e
theorem gH_take2 {H : List Nat} {k : Nat} (hk : k < H.length) : H.take (k + 1) = H.take k ++ [gH H k] := by
  rw [List.take_add_one, gH_at hk]; rfl
set_option maxRecDepth 100000 in
set_option maxHeartbeats 8000000 in
theorem rHull_is (ao : Option Addr) (N cap : Nat) (X Y : Nat → Int) (w : World) (h : Pts w ao N cap X Y) (hN : N ≤ 4096) (H : List Nat) (hR : RC N X Y H) :
    Calls Try.prog 16 #[.slice ao N cap] w fun e w' => ∃ v, e = .returned v ∧ NL w' w.heap.size v H ∧ Below w.heap.size w w' := by
  have hcl := h.capl
  have hcb := h.capb
  have HO := Lib.hid h
  have HH := Lib.hid hR
  have hpos := hR.pos
  have hlen := hR.len
  clear h hR
  obtain ⟨pa, rfl, _⟩ := HO.out.atP (by omega)
  obtain ⟨n, hn⟩ : ∃ n, H.length = n := ⟨_, rfl⟩
  have HLN := Lib.hid hn
  rw [hn] at hpos hlen
  clear hn
  go_enter Try.func16, Try.ntmps16
  go_wp2_with fail
  go_loopg [3, 4] n (fun gk s3 s4 wr => ∃ (k : Nat) (ho : Option Addr) (hc a : Nat), s3 = .slice ho k hc ∧ s4 = .int .i64 (a : Nat) ∧ k ≤ n ∧ n - k ≤ gk ∧ (k = n → a = 0) ∧ (0 < k → k < n → a ≠ 0) ∧ Hid (a = gH H (k % n)) ∧ Hid (NL wr w.heap.size (.slice ho k hc) (H.take k)) ∧ Below w.heap.size w wr)
  case atStart =>
    refine ⟨0, none, 0, 0, rfl, rfl, by omega, by omega, fun _ => rfl, fun h => by omega, Lib.hid ?_, Lib.hid NL.none, Below.refl _ _⟩
    first | exact HH.out.zero.symm | (rw [Nat.zero_mod]; exact HH.out.zero.symm)
  case round =>
    obtain ⟨k, ho, hc, a, rfl, rfl, hk, hgk, ha0, han, HA, HNL, hb⟩ := hrel
    by_cases hlt : k < n
    · have haN : a < N := by rw [HA.out, Nat.mod_eq_of_lt hlt]; exact HH.out.lt k (by rw [HLN.out]; exact hlt)
      have hsz := hb.size
      rcases Nat.eq_zero_or_pos k with hk0 | hk0
      · subst hk0
        have hq1 : (H.take 0).length < 100000 := by rw [List.length_take]; omega
        have hq2 : w.heap.size ≤ (wr.alloc (.cells #[.int .i64 (a : Nat)] 3)).heap.size := by simp; omega
        go_wp2_with (at_builtin; go_loud (refine wpList_append_nl rfl _ _ rfl w.heap.size (.slice ho 0 hc) (H.take 0) a wr.heap.size rfl rfl (Blk.new wr _ _) (HNL.out.of (below_a1 _ _)) hq1 hq2 ?_))
        intro ho2 m2 hc2 V1 nl2 gr2
        have hva : (wr.alloc (.cells #[.int .i64 (a : Nat)] 3)).heap.size = wr.heap.size + 1 := by simp
        have hoy : ∀ g, (Value.slice ho 0 hc).ownBlock = some g → w.heap.size ≤ g := fun g hg => (HNL.out.own2 hg).1
        have BB : Hid (Below w.heap.size w V1) := Lib.hid (hb.trans ⟨gr2.os, gr2.tape, gr2.output, by have := gr2.size; omega, fun g hg => (gr2.block g (by omega) (fun e => by have := hoy g e.symm; omega)).trans ((below_a1 wr _).block g (by omega))⟩)
        have hm3 : m2 = 0 + 1 := by rw [nl2.cnt]; first | rfl | (have := HLN.out; simp; omega)
        have NL3 : Hid (NL V1 w.heap.size (.slice ho2 (0 + 1) hc2) (H.take (0 + 1))) := by
          rw [gH_take2 (by rw [HLN.out]; exact hlt), ← hm3]
          have e : gH H 0 = a := by rw [HA.out, Nat.mod_eq_of_lt hlt]
          rw [e]; exact Lib.hid nl2
        subst hm3
        have hz1 := BB.out.size
        clear hva hoy nl2 gr2 HNL hq1 hq2 hb
        obtain ⟨z, hz⟩ : ∃ z, gH H ((0 + 1) % n) = z := ⟨_, rfl⟩
        have HNX : Hid ((∀ i, i < N → i ≠ a → ((∀ j, j < N → goodR X Y a i j) ↔ i = z)) ∧ z ≠ a ∧ z < N) := by
          have h1 := HH.out.nxt 0 (by rw [HLN.out]; exact hlt)
          have h2 := HH.out.ne 0 (by rw [HLN.out]; exact hlt)
          have e : gH H 0 = a := by rw [HA.out, Nat.mod_eq_of_lt hlt]
          rw [HLN.out, hz, e] at h1 h2
          refine Lib.hid ⟨h1, h2, ?_⟩
          rw [← hz]; exact HH.out.lt _ (by rw [HLN.out]; exact Nat.mod_lt _ (by omega))
        have HZ := Lib.hid hz
        clear hz
        obtain ⟨ax, hax⟩ : ∃ x, X a = x := ⟨_, rfl⟩
        obtain ⟨ay, hay⟩ : ∃ x, Y a = x := ⟨_, rfl⟩
        have HAP := Lib.hid (And.intro hax hay)
        clear hax hay
        go_wp2_with fail
        go_loopg [5, 6] N (fun gk s5 s6 wi => ∃ i : Nat, s5 = .int .i64 (nxI z i) ∧ s6 = .int .i64 (i : Nat) ∧ i ≤ N ∧ N - i ≤ gk ∧ Hid (Below V1.heap.size V1 wi))
        case atStart => exact ⟨0, by unfold nxI; rw [if_neg (by omega)], rfl, by omega, by omega, Lib.hid (Below.refl _ _)⟩
        case round =>
          obtain ⟨i, rfl, rfl, hi, hgi, HWi⟩ := hrel
          by_cases hilt : i < N
          · by_cases hia : i = a
            · subst hia
              have HN2 := Lib.hid (nxI_st (show i ≠ z from fun e => HNX.out.2.1 e.symm))
              go_wp2_with fail
              go_roundg (N - (i + 1))
              case measure => omega
              case rel => exact ⟨i + 1, by rw [HN2.out], by norm_cast, by omega, Nat.le_refl _, HWi⟩
            · have hia2 : ((i : Int) == (a : Int)) = false := by simp; omega
              obtain ⟨ix, hix⟩ : ∃ x, X i = x := ⟨_, rfl⟩
              obtain ⟨iy, hiy⟩ : ∃ x, Y i = x := ⟨_, rfl⟩
              have HI := Lib.hid (And.intro hix hiy)
              clear hix hiy
              go_wp2_with fail
              go_loopg [7, 8] N (fun gk s7 s8 wj => ∃ (j : Nat) (b : Bool), s7 = .bool b ∧ s8 = .int .i64 (j : Nat) ∧ j ≤ N ∧ N - j ≤ gk ∧ Hid (b = true ↔ ∀ q, q < j → goodR X Y a i q) ∧ Hid (Below V1.heap.size V1 wj))
              case atStart => exact ⟨0, true, rfl, rfl, by omega, by omega, Lib.hid ⟨fun _ q hq => by omega, fun _ => rfl⟩, HWi⟩
              case round =>
                obtain ⟨j, b, rfl, rfl, hj, hgj, HG, HWj⟩ := hrel
                by_cases hjlt : j < N
                · obtain ⟨r, hr⟩ : ∃ r, wy X Y a i j = r := ⟨_, rfl⟩
                  obtain ⟨cx, hcx⟩ : ∃ x, X j = x := ⟨_, rfl⟩
                  obtain ⟨cy, hcy⟩ : ∃ x, Y j = x := ⟨_, rfl⟩
                  have HC := Lib.hid (And.intro hcx hcy)
                  clear hcx hcy
                  have HR := Lib.hid hr
                  have hw : Hid (way ax ay ix iy cx cy = r) := by rw [← hr, ← HAP.out.1, ← HAP.out.2, ← HI.out.1, ← HI.out.2, ← HC.out.1, ← HC.out.2]; exact Lib.hid rfl
                  have hr3 : r = -1 ∨ r = 0 ∨ r = 1 := by rw [← hr]; exact wy_cases _ _ _ _ _
                  clear hr
                  have hbj := BB.out.trans (HWj.out.mono hz1)
                  obtain ⟨pa2, he2, hpt⟩ := (HO.out.of hbj).atP (by omega)
                  injection he2 with he2
                  rw [← he2] at hpt
                  have qa := hpt a haN
                  rw [HAP.out.1, HAP.out.2] at qa
                  have qa0 := fun u => (qa u).1
                  have qa1 := fun u => (qa u).2
                  have qi := hpt i hilt
                  rw [HI.out.1, HI.out.2] at qi
                  have qi0 := fun u => (qi u).1
                  have qi1 := fun u => (qi u).2
                  have qc := hpt j hjlt
                  rw [HC.out.1, HC.out.2] at qc
                  have qc0 := fun u => (qc u).1
                  have qc1 := fun u => (qc u).2
                  clear hpt he2 qa qi qc
                  go_wp2_with fail
                  refine wp_region_up wr.heap.size 12 [(true, 0), (true, 1), (true, 2), (true, 3), (true, 4), (true, 5), (true, 6), (true, 7), (true, 8), (true, 9), (true, 10), (true, 11)] (by kernel_rfl) (by kernel_rfl) (fun _ _ d _ _ h => by cases d <;> exact h) ?_
                  have hb : Below wr.heap.size wr wr.drew := (Below.refl _ _).drew
                  iterate 12
                    refine wpS_takeL rfl rfl ?_
                    go_big_quiet_step (rfl)
                    refine wpQuiet_nil ?_
                  refine wpS_nil ?_
                  simp only [List.drop_succ_cons, List.drop_zero]
                  go_wp2_with fail
                  refine (rWy_is ax ay ix iy cx cy r hw.out _).mono ?_
                  rintro e w2 ⟨rfl, hn⟩
                  have HW2 := Lib.hid ((HWj.out.trans (hb.mono HWj.out.size)).trans (hn.mono (HWj.out.trans (hb.mono HWj.out.size)).size))
                  clear hn hb hbj qa0 qa1 qi0 qi1 qc0 qc1
                  rcases hr3 with rfl | rfl | rfl
                  · go_wp2_with fail
                    refine wp_region_up w2.heap.size 28 [(true, 0), (true, 1), (true, 2), (true, 3), (true, 4), (true, 5), (true, 6), (true, 7), (true, 8), (true, 9), (true, 10), (true, 11), (true, 12), (true, 13), (true, 14), (true, 15), (true, 16), (true, 17), (true, 18), (true, 19), (true, 20), (true, 21), (true, 22), (true, 23), (true, 24), (true, 25), (true, 26), (true, 27)] (by kernel_rfl) (by kernel_rfl) (fun _ _ d _ _ h => by cases d <;> exact h) ?_
                    have hb : Below w2.heap.size w2 w2.drew := (Below.refl _ _).drew
                    iterate 28
                      refine wpS_takeL rfl rfl ?_
                      go_big_quiet_step (rfl)
                      refine wpQuiet_nil ?_
                    refine wpS_nil ?_
                    simp only [List.drop_succ_cons, List.drop_zero]
                    have HW3 := Lib.hid (HW2.out.trans (hb.mono HW2.out.size))
                    have HF : Hid (false = true ↔ ∀ q, q < j + 1 → goodR X Y a i q) := Lib.hid (by refine ⟨fun h => (by cases h), fun h => ?_⟩; have := (h j (by omega)).1; rw [HR.out] at this; exact absurd (by decide) this)
                    clear hb
                    go_wp2_with fail
                    go_roundg (N - (j + 1))
                    case measure => omega
                    case rel => exact ⟨j + 1, false, rfl, by norm_cast, by omega, Nat.le_refl _, HF, HW3⟩
                  · by_cases hja : j = a
                    · subst hja
                      go_wp2_with fail
                      refine wp_region_up w2.heap.size 28 [(true, 0), (true, 1), (true, 2), (true, 3), (true, 4), (true, 5), (true, 6), (true, 7), (true, 8), (true, 9), (true, 10), (true, 11), (true, 12), (true, 13), (true, 14), (true, 15), (true, 16), (true, 17), (true, 18), (true, 19), (true, 20), (true, 21), (true, 22), (true, 23), (true, 24), (true, 25), (true, 26), (true, 27)] (by kernel_rfl) (by kernel_rfl) (fun _ _ d _ _ h => by cases d <;> exact h) ?_
                      have hb : Below w2.heap.size w2 w2.drew := (Below.refl _ _).drew
                      iterate 28
                        refine wpS_takeL rfl rfl ?_
                        go_big_quiet_step (rfl)
                        refine wpQuiet_nil ?_
                      refine wpS_nil ?_
                      simp only [List.drop_succ_cons, List.drop_zero]
                      have HW3 := Lib.hid (HW2.out.trans (hb.mono HW2.out.size))
                      have HF : Hid (b = true ↔ ∀ q, q < j + 1 → goodR X Y j i q) := Lib.hid (by refine HG.out.trans ⟨fun h q hq => ?_, fun h q hq => h q (by omega)⟩; rcases Nat.lt_or_ge q j with h1 | h1; exact h q h1; have e : q = j := (by omega); subst e; exact ⟨by rw [HR.out]; decide, fun _ h2 => absurd rfl h2⟩)
                      clear hb
                      go_wp2_with fail
                      go_roundg (N - (j + 1))
                      case measure => omega
                      case rel => exact ⟨j + 1, b, rfl, by norm_cast, by omega, Nat.le_refl _, HF, HW3⟩
                    · by_cases hji : j = i
                      · subst hji
                        have hja2 : ((j : Int) != (a : Int)) = true := by simp; omega
                        go_wp2_with fail
                        refine wp_region_up w2.heap.size 28 [(true, 0), (true, 1), (true, 2), (true, 3), (true, 4), (true, 5), (true, 6), (true, 7), (true, 8), (true, 9), (true, 10), (true, 11), (true, 12), (true, 13), (true, 14), (true, 15), (true, 16), (true, 17), (true, 18), (true, 19), (true, 20), (true, 21), (true, 22), (true, 23), (true, 24), (true, 25), (true, 26), (true, 27)] (by kernel_rfl) (by kernel_rfl) (fun _ _ d _ _ h => by cases d <;> exact h) ?_
                        have hb : Below w2.heap.size w2 w2.drew := (Below.refl _ _).drew
                        iterate 28
                          refine wpS_takeL rfl rfl ?_
                          go_big_quiet_step (rfl)
                          refine wpQuiet_nil ?_
                        refine wpS_nil ?_
                        simp only [List.drop_succ_cons, List.drop_zero]
                        have HW3 := Lib.hid (HW2.out.trans (hb.mono HW2.out.size))
                        have HF : Hid (b = true ↔ ∀ q, q < j + 1 → goodR X Y a j q) := Lib.hid (by refine HG.out.trans ⟨fun h q hq => ?_, fun h q hq => h q (by omega)⟩; rcases Nat.lt_or_ge q j with h1 | h1; exact h q h1; have e : q = j := (by omega); subst e; exact ⟨by rw [HR.out]; decide, fun _ _ h2 => absurd rfl h2⟩)
                        clear hb
                        go_wp2_with fail
                        go_roundg (N - (j + 1))
                        case measure => omega
                        case rel => exact ⟨j + 1, b, rfl, by norm_cast, by omega, Nat.le_refl _, HF, HW3⟩
                      · have hja2 : ((j : Int) != (a : Int)) = true := by simp; omega
                        have hji2 : ((j : Int) != (i : Int)) = true := by simp; omega
                        obtain ⟨o, ho_⟩ : ∃ o, onB ax ay ix iy cx cy = o := ⟨_, rfl⟩
                        have HON := Lib.hid ho_
                        clear ho_
                        have hb2 := BB.out.trans (HW2.out.mono hz1)
                        obtain ⟨pa2, he2, hpt⟩ := (HO.out.of hb2).atP (by omega)
                        injection he2 with he2
                        rw [← he2] at hpt
                        have qa := hpt a haN
                        rw [HAP.out.1, HAP.out.2] at qa
                        have qa0 := fun u => (qa u).1
                        have qa1 := fun u => (qa u).2
                        have qi := hpt i hilt
                        rw [HI.out.1, HI.out.2] at qi
                        have qi0 := fun u => (qi u).1
                        have qi1 := fun u => (qi u).2
                        have qc := hpt j hjlt
                        rw [HC.out.1, HC.out.2] at qc
                        have qc0 := fun u => (qc u).1
                        have qc1 := fun u => (qc u).2
                        clear hpt he2 qa qi qc
                        go_wp2_with fail
                        refine wp_region_up w2.heap.size 28 [(true, 0), (true, 1), (true, 2), (true, 3), (true, 4), (true, 5), (true, 6), (true, 7), (true, 8), (true, 9), (true, 10), (true, 11), (true, 12), (true, 13), (true, 14), (true, 15), (true, 16), (true, 17), (true, 18), (true, 19), (true, 20), (true, 21), (true, 22), (true, 23), (true, 24), (true, 25), (true, 26), (true, 27)] (by kernel_rfl) (by kernel_rfl) (fun _ _ d _ _ h => by cases d <;> exact h) ?_
                        have hb : Below w2.heap.size w2 w2.drew := (Below.refl _ _).drew
                        iterate 28
                          refine wpS_takeL rfl rfl ?_
                          go_big_quiet_step (rfl)
                          refine wpQuiet_nil ?_
                        refine wpS_nil ?_
                        simp only [List.drop_succ_cons, List.drop_zero]
                        go_wp2_with fail
                        refine (rOnB_is ax ay ix iy cx cy o HON.out _).mono ?_
                        rintro e w3 ⟨rfl, hn⟩
                        have HW3 := Lib.hid ((HW2.out.trans (hb.mono HW2.out.size)).trans (hn.mono (HW2.out.trans (hb.mono HW2.out.size)).size))
                        have HOB := Lib.hid (show onB (X a) (Y a) (X i) (Y i) (X j) (Y j) = o by rw [HAP.out.1, HAP.out.2, HI.out.1, HI.out.2, HC.out.1, HC.out.2]; exact HON.out)
                        clear hn hb hb2 qa0 qa1 qi0 qi1 qc0 qc1
                        cases o with
                        | true =>
                          have HF : Hid (false = true ↔ ∀ q, q < j + 1 → goodR X Y a i q) := Lib.hid (by refine ⟨fun h => (by cases h), fun h => ?_⟩; have := (h j (by omega)).2 HR.out hja hji; rw [HOB.out] at this; cases this)
                          go_wp2_with fail
                          go_roundg (N - (j + 1))
                          case measure => omega
                          case rel => exact ⟨j + 1, false, rfl, by norm_cast, by omega, Nat.le_refl _, HF, HW3⟩
                        | false =>
                          have HF : Hid (b = true ↔ ∀ q, q < j + 1 → goodR X Y a i q) := Lib.hid (by refine HG.out.trans ⟨fun h q hq => ?_, fun h q hq => h q (by omega)⟩; rcases Nat.lt_or_ge q j with h1 | h1; exact h q h1; have e : q = j := (by omega); subst e; exact ⟨by rw [HR.out]; decide, fun _ _ _ => HOB.out⟩)
                          go_wp2_with fail
                          go_roundg (N - (j + 1))
                          case measure => omega
                          case rel => exact ⟨j + 1, b, rfl, by norm_cast, by omega, Nat.le_refl _, HF, HW3⟩
                  · go_wp2_with fail
                    refine wp_region_up w2.heap.size 28 [(true, 0), (true, 1), (true, 2), (true, 3), (true, 4), (true, 5), (true, 6), (true, 7), (true, 8), (true, 9), (true, 10), (true, 11), (true, 12), (true, 13), (true, 14), (true, 15), (true, 16), (true, 17), (true, 18), (true, 19), (true, 20), (true, 21), (true, 22), (true, 23), (true, 24), (true, 25), (true, 26), (true, 27)] (by kernel_rfl) (by kernel_rfl) (fun _ _ d _ _ h => by cases d <;> exact h) ?_
                    have hb : Below w2.heap.size w2 w2.drew := (Below.refl _ _).drew
                    iterate 28
                      refine wpS_takeL rfl rfl ?_
                      go_big_quiet_step (rfl)
                      refine wpQuiet_nil ?_
                    refine wpS_nil ?_
                    simp only [List.drop_succ_cons, List.drop_zero]
                    have HW3 := Lib.hid (HW2.out.trans (hb.mono HW2.out.size))
                    have HF : Hid (b = true ↔ ∀ q, q < j + 1 → goodR X Y a i q) := Lib.hid (by refine HG.out.trans ⟨fun h q hq => ?_, fun h q hq => h q (by omega)⟩; rcases Nat.lt_or_ge q j with h1 | h1; exact h q h1; have e : q = j := (by omega); subst e; exact ⟨by rw [HR.out]; decide, fun h => by rw [HR.out] at h; cases h⟩)
                    clear hb
                    go_wp2_with fail
                    go_roundg (N - (j + 1))
                    case measure => omega
                    case rel => exact ⟨j + 1, b, rfl, by norm_cast, by omega, Nat.le_refl _, HF, HW3⟩
                · have hjN : j = N := by omega
                  have HB2 : Hid (b = true ↔ i = z) := Lib.hid (by have h1 := HG.out; rw [hjN] at h1; exact h1.trans (HNX.out.1 i hilt hia))
                  cases b with
                  | true =>
                    have HN2 := Lib.hid (nxI_up (HB2.out.1 rfl))
                    go_wp2_with fail
                    go_roundg (N - (i + 1))
                    case measure => omega
                    case rel => exact ⟨i + 1, by rw [HN2.out], by norm_cast, by omega, Nat.le_refl _, HWj⟩
                  | false =>
                    have HN2 := Lib.hid (nxI_st (fun e => by have := HB2.out.2 e; cases this))
                    go_wp2_with fail
                    go_roundg (N - (i + 1))
                    case measure => omega
                    case rel => exact ⟨i + 1, by rw [HN2.out], by norm_cast, by omega, Nat.le_refl _, HWj⟩
          · have hiN : i = N := by omega
            have hnz : nxI z i = (z : Int) := by unfold nxI; rw [if_pos (by rw [hiN]; exact HNX.out.2.2)]
            rw [hnz]
            have hz0 : ¬ ((z : Int) < 0) := by omega
            have HST : Hid ((0 + 1 = n → z = 0) ∧ (0 < 0 + 1 → 0 + 1 < n → z ≠ 0) ∧ z = gH H ((0 + 1) % n)) := by
              refine Lib.hid ⟨fun h => ?_, fun _ h => ?_, HZ.out.symm⟩
              · rw [← HZ.out, h, Nat.mod_self]; exact HH.out.zero
              · rw [← HZ.out, Nat.mod_eq_of_lt h]; exact HH.out.nz _ (by omega) (by rw [HLN.out]; exact h)
            have HBB := BB.out.trans (HWi.out.mono hz1)
            have HNL2 := Lib.hid (NL3.out.of HWi.out)
            clear hnz
            go_wp2_with fail
            go_roundg (n - (0 + 1))
            case measure => omega
            case rel => exact ⟨0 + 1, ho2, hc2, z, rfl, rfl, by omega, Nat.le_refl _, HST.out.1, HST.out.2.1, Lib.hid HST.out.2.2, HNL2, HBB⟩
      · have hk1 : ¬ k = 0 := by omega
        have hk2 : ¬ a = 0 := han hk0 hlt
        have hk4 : ((k : Int) == 0) = false := by simp; omega
        have hk5 : ((a : Int) != 0) = true := by simp; omega
        have hk3 : (k : Int) ≤ (N : Int) := by omega
        clear hk0
        have hq1 : (H.take k).length < 100000 := by rw [List.length_take]; omega
        have hq2 : w.heap.size ≤ (wr.alloc (.cells #[.int .i64 (a : Nat)] 3)).heap.size := by simp; omega
        go_wp2_with (at_builtin; go_loud (refine wpList_append_nl rfl _ _ rfl w.heap.size (.slice ho k hc) (H.take k) a wr.heap.size rfl rfl (Blk.new wr _ _) (HNL.out.of (below_a1 _ _)) hq1 hq2 ?_))
        intro ho2 m2 hc2 V1 nl2 gr2
        have hva : (wr.alloc (.cells #[.int .i64 (a : Nat)] 3)).heap.size = wr.heap.size + 1 := by simp
        have hoy : ∀ g, (Value.slice ho k hc).ownBlock = some g → w.heap.size ≤ g := fun g hg => (HNL.out.own2 hg).1
        have BB : Hid (Below w.heap.size w V1) := Lib.hid (hb.trans ⟨gr2.os, gr2.tape, gr2.output, by have := gr2.size; omega, fun g hg => (gr2.block g (by omega) (fun e => by have := hoy g e.symm; omega)).trans ((below_a1 wr _).block g (by omega))⟩)
        have hm3 : m2 = k + 1 := by rw [nl2.cnt]; first | rfl | (have := HLN.out; simp; omega)
        have NL3 : Hid (NL V1 w.heap.size (.slice ho2 (k + 1) hc2) (H.take (k + 1))) := by
          rw [gH_take2 (by rw [HLN.out]; exact hlt), ← hm3]
          have e : gH H k = a := by rw [HA.out, Nat.mod_eq_of_lt hlt]
          rw [e]; exact Lib.hid nl2
        subst hm3
        have hz1 := BB.out.size
        clear hva hoy nl2 gr2 HNL hq1 hq2 hb
        obtain ⟨z, hz⟩ : ∃ z, gH H ((k + 1) % n) = z := ⟨_, rfl⟩
        have HNX : Hid ((∀ i, i < N → i ≠ a → ((∀ j, j < N → goodR X Y a i j) ↔ i = z)) ∧ z ≠ a ∧ z < N) := by
          have h1 := HH.out.nxt k (by rw [HLN.out]; exact hlt)
          have h2 := HH.out.ne k (by rw [HLN.out]; exact hlt)
          have e : gH H k = a := by rw [HA.out, Nat.mod_eq_of_lt hlt]
          rw [HLN.out, hz, e] at h1 h2
          refine Lib.hid ⟨h1, h2, ?_⟩
          rw [← hz]; exact HH.out.lt _ (by rw [HLN.out]; exact Nat.mod_lt _ (by omega))
        have HZ := Lib.hid hz
        clear hz
        obtain ⟨ax, hax⟩ : ∃ x, X a = x := ⟨_, rfl⟩
        obtain ⟨ay, hay⟩ : ∃ x, Y a = x := ⟨_, rfl⟩
        have HAP := Lib.hid (And.intro hax hay)
        clear hax hay
        go_wp2_with fail
        go_loopg [5, 6] N (fun gk s5 s6 wi => ∃ i : Nat, s5 = .int .i64 (nxI z i) ∧ s6 = .int .i64 (i : Nat) ∧ i ≤ N ∧ N - i ≤ gk ∧ Hid (Below V1.heap.size V1 wi))
        case atStart => exact ⟨0, by unfold nxI; rw [if_neg (by omega)], rfl, by omega, by omega, Lib.hid (Below.refl _ _)⟩
        case round =>
          obtain ⟨i, rfl, rfl, hi, hgi, HWi⟩ := hrel
          by_cases hilt : i < N
          · by_cases hia : i = a
            · subst hia
              have HN2 := Lib.hid (nxI_st (show i ≠ z from fun e => HNX.out.2.1 e.symm))
              go_wp2_with fail
              go_roundg (N - (i + 1))
              case measure => omega
              case rel => exact ⟨i + 1, by rw [HN2.out], by norm_cast, by omega, Nat.le_refl _, HWi⟩
            · have hia2 : ((i : Int) == (a : Int)) = false := by simp; omega
              obtain ⟨ix, hix⟩ : ∃ x, X i = x := ⟨_, rfl⟩
              obtain ⟨iy, hiy⟩ : ∃ x, Y i = x := ⟨_, rfl⟩
              have HI := Lib.hid (And.intro hix hiy)
              clear hix hiy
              go_wp2_with fail
              go_loopg [7, 8] N (fun gk s7 s8 wj => ∃ (j : Nat) (b : Bool), s7 = .bool b ∧ s8 = .int .i64 (j : Nat) ∧ j ≤ N ∧ N - j ≤ gk ∧ Hid (b = true ↔ ∀ q, q < j → goodR X Y a i q) ∧ Hid (Below V1.heap.size V1 wj))
              case atStart => exact ⟨0, true, rfl, rfl, by omega, by omega, Lib.hid ⟨fun _ q hq => by omega, fun _ => rfl⟩, HWi⟩
              case round =>
                obtain ⟨j, b, rfl, rfl, hj, hgj, HG, HWj⟩ := hrel
                by_cases hjlt : j < N
                · obtain ⟨r, hr⟩ : ∃ r, wy X Y a i j = r := ⟨_, rfl⟩
                  obtain ⟨cx, hcx⟩ : ∃ x, X j = x := ⟨_, rfl⟩
                  obtain ⟨cy, hcy⟩ : ∃ x, Y j = x := ⟨_, rfl⟩
                  have HC := Lib.hid (And.intro hcx hcy)
                  clear hcx hcy
                  have HR := Lib.hid hr
                  have hw : Hid (way ax ay ix iy cx cy = r) := by rw [← hr, ← HAP.out.1, ← HAP.out.2, ← HI.out.1, ← HI.out.2, ← HC.out.1, ← HC.out.2]; exact Lib.hid rfl
                  have hr3 : r = -1 ∨ r = 0 ∨ r = 1 := by rw [← hr]; exact wy_cases _ _ _ _ _
                  clear hr
                  have hbj := BB.out.trans (HWj.out.mono hz1)
                  obtain ⟨pa2, he2, hpt⟩ := (HO.out.of hbj).atP (by omega)
                  injection he2 with he2
                  rw [← he2] at hpt
                  have qa := hpt a haN
                  rw [HAP.out.1, HAP.out.2] at qa
                  have qa0 := fun u => (qa u).1
                  have qa1 := fun u => (qa u).2
                  have qi := hpt i hilt
                  rw [HI.out.1, HI.out.2] at qi
                  have qi0 := fun u => (qi u).1
                  have qi1 := fun u => (qi u).2
                  have qc := hpt j hjlt
                  rw [HC.out.1, HC.out.2] at qc
                  have qc0 := fun u => (qc u).1
                  have qc1 := fun u => (qc u).2
                  clear hpt he2 qa qi qc
                  go_wp2_with fail
                  refine wp_region_up wr.heap.size 12 [(true, 0), (true, 1), (true, 2), (true, 3), (true, 4), (true, 5), (true, 6), (true, 7), (true, 8), (true, 9), (true, 10), (true, 11)] (by kernel_rfl) (by kernel_rfl) (fun _ _ d _ _ h => by cases d <;> exact h) ?_
                  have hb : Below wr.heap.size wr wr.drew := (Below.refl _ _).drew
                  iterate 12
                    refine wpS_takeL rfl rfl ?_
                    go_big_quiet_step (rfl)
                    refine wpQuiet_nil ?_
                  refine wpS_nil ?_
                  simp only [List.drop_succ_cons, List.drop_zero]
                  go_wp2_with fail
                  refine (rWy_is ax ay ix iy cx cy r hw.out _).mono ?_
                  rintro e w2 ⟨rfl, hn⟩
                  have HW2 := Lib.hid ((HWj.out.trans (hb.mono HWj.out.size)).trans (hn.mono (HWj.out.trans (hb.mono HWj.out.size)).size))
                  clear hn hb hbj qa0 qa1 qi0 qi1 qc0 qc1
                  rcases hr3 with rfl | rfl | rfl
                  · go_wp2_with fail
                    refine wp_region_up w2.heap.size 28 [(true, 0), (true, 1), (true, 2), (true, 3), (true, 4), (true, 5), (true, 6), (true, 7), (true, 8), (true, 9), (true, 10), (true, 11), (true, 12), (true, 13), (true, 14), (true, 15), (true, 16), (true, 17), (true, 18), (true, 19), (true, 20), (true, 21), (true, 22), (true, 23), (true, 24), (true, 25), (true, 26), (true, 27)] (by kernel_rfl) (by kernel_rfl) (fun _ _ d _ _ h => by cases d <;> exact h) ?_
                    have hb : Below w2.heap.size w2 w2.drew := (Below.refl _ _).drew
                    iterate 28
                      refine wpS_takeL rfl rfl ?_
                      go_big_quiet_step (rfl)
                      refine wpQuiet_nil ?_
                    refine wpS_nil ?_
                    simp only [List.drop_succ_cons, List.drop_zero]
                    have HW3 := Lib.hid (HW2.out.trans (hb.mono HW2.out.size))
                    have HF : Hid (false = true ↔ ∀ q, q < j + 1 → goodR X Y a i q) := Lib.hid (by refine ⟨fun h => (by cases h), fun h => ?_⟩; have := (h j (by omega)).1; rw [HR.out] at this; exact absurd (by decide) this)
                    clear hb
                    go_wp2_with fail
                    go_roundg (N - (j + 1))
                    case measure => omega
                    case rel => exact ⟨j + 1, false, rfl, by norm_cast, by omega, Nat.le_refl _, HF, HW3⟩
                  · by_cases hja : j = a
                    · subst hja
                      go_wp2_with fail
                      refine wp_region_up w2.heap.size 28 [(true, 0), (true, 1), (true, 2), (true, 3), (true, 4), (true, 5), (true, 6), (true, 7), (true, 8), (true, 9), (true, 10), (true, 11), (true, 12), (true, 13), (true, 14), (true, 15), (true, 16), (true, 17), (true, 18), (true, 19), (true, 20), (true, 21), (true, 22), (true, 23), (true, 24), (true, 25), (true, 26), (true, 27)] (by kernel_rfl) (by kernel_rfl) (fun _ _ d _ _ h => by cases d <;> exact h) ?_
                      have hb : Below w2.heap.size w2 w2.drew := (Below.refl _ _).drew
                      iterate 28
                        refine wpS_takeL rfl rfl ?_
                        go_big_quiet_step (rfl)
                        refine wpQuiet_nil ?_
                      refine wpS_nil ?_
                      simp only [List.drop_succ_cons, List.drop_zero]
                      have HW3 := Lib.hid (HW2.out.trans (hb.mono HW2.out.size))
                      have HF : Hid (b = true ↔ ∀ q, q < j + 1 → goodR X Y j i q) := Lib.hid (by refine HG.out.trans ⟨fun h q hq => ?_, fun h q hq => h q (by omega)⟩; rcases Nat.lt_or_ge q j with h1 | h1; exact h q h1; have e : q = j := (by omega); subst e; exact ⟨by rw [HR.out]; decide, fun _ h2 => absurd rfl h2⟩)
                      clear hb
                      go_wp2_with fail
                      go_roundg (N - (j + 1))
                      case measure => omega
                      case rel => exact ⟨j + 1, b, rfl, by norm_cast, by omega, Nat.le_refl _, HF, HW3⟩
                    · by_cases hji : j = i
                      · subst hji
                        have hja2 : ((j : Int) != (a : Int)) = true := by simp; omega
                        go_wp2_with fail
                        refine wp_region_up w2.heap.size 28 [(true, 0), (true, 1), (true, 2), (true, 3), (true, 4), (true, 5), (true, 6), (true, 7), (true, 8), (true, 9), (true, 10), (true, 11), (true, 12), (true, 13), (true, 14), (true, 15), (true, 16), (true, 17), (true, 18), (true, 19), (true, 20), (true, 21), (true, 22), (true, 23), (true, 24), (true, 25), (true, 26), (true, 27)] (by kernel_rfl) (by kernel_rfl) (fun _ _ d _ _ h => by cases d <;> exact h) ?_
                        have hb : Below w2.heap.size w2 w2.drew := (Below.refl _ _).drew
                        iterate 28
                          refine wpS_takeL rfl rfl ?_
                          go_big_quiet_step (rfl)
                          refine wpQuiet_nil ?_
                        refine wpS_nil ?_
                        simp only [List.drop_succ_cons, List.drop_zero]
                        have HW3 := Lib.hid (HW2.out.trans (hb.mono HW2.out.size))
                        have HF : Hid (b = true ↔ ∀ q, q < j + 1 → goodR X Y a j q) := Lib.hid (by refine HG.out.trans ⟨fun h q hq => ?_, fun h q hq => h q (by omega)⟩; rcases Nat.lt_or_ge q j with h1 | h1; exact h q h1; have e : q = j := (by omega); subst e; exact ⟨by rw [HR.out]; decide, fun _ _ h2 => absurd rfl h2⟩)
                        clear hb
                        go_wp2_with fail
                        go_roundg (N - (j + 1))
                        case measure => omega
                        case rel => exact ⟨j + 1, b, rfl, by norm_cast, by omega, Nat.le_refl _, HF, HW3⟩
                      · have hja2 : ((j : Int) != (a : Int)) = true := by simp; omega
                        have hji2 : ((j : Int) != (i : Int)) = true := by simp; omega
                        obtain ⟨o, ho_⟩ : ∃ o, onB ax ay ix iy cx cy = o := ⟨_, rfl⟩
                        have HON := Lib.hid ho_
                        clear ho_
                        have hb2 := BB.out.trans (HW2.out.mono hz1)
                        obtain ⟨pa2, he2, hpt⟩ := (HO.out.of hb2).atP (by omega)
                        injection he2 with he2
                        rw [← he2] at hpt
                        have qa := hpt a haN
                        rw [HAP.out.1, HAP.out.2] at qa
                        have qa0 := fun u => (qa u).1
                        have qa1 := fun u => (qa u).2
                        have qi := hpt i hilt
                        rw [HI.out.1, HI.out.2] at qi
                        have qi0 := fun u => (qi u).1
                        have qi1 := fun u => (qi u).2
                        have qc := hpt j hjlt
                        rw [HC.out.1, HC.out.2] at qc
                        have qc0 := fun u => (qc u).1
                        have qc1 := fun u => (qc u).2
                        clear hpt he2 qa qi qc
                        go_wp2_with fail
                        refine wp_region_up w2.heap.size 28 [(true, 0), (true, 1), (true, 2), (true, 3), (true, 4), (true, 5), (true, 6), (true, 7), (true, 8), (true, 9), (true, 10), (true, 11), (true, 12), (true, 13), (true, 14), (true, 15), (true, 16), (true, 17), (true, 18), (true, 19), (true, 20), (true, 21), (true, 22), (true, 23), (true, 24), (true, 25), (true, 26), (true, 27)] (by kernel_rfl) (by kernel_rfl) (fun _ _ d _ _ h => by cases d <;> exact h) ?_
                        have hb : Below w2.heap.size w2 w2.drew := (Below.refl _ _).drew
                        iterate 28
                          refine wpS_takeL rfl rfl ?_
                          go_big_quiet_step (rfl)
                          refine wpQuiet_nil ?_
                        refine wpS_nil ?_
                        simp only [List.drop_succ_cons, List.drop_zero]
                        go_wp2_with fail
                        refine (rOnB_is ax ay ix iy cx cy o HON.out _).mono ?_
                        rintro e w3 ⟨rfl, hn⟩
                        have HW3 := Lib.hid ((HW2.out.trans (hb.mono HW2.out.size)).trans (hn.mono (HW2.out.trans (hb.mono HW2.out.size)).size))
                        have HOB := Lib.hid (show onB (X a) (Y a) (X i) (Y i) (X j) (Y j) = o by rw [HAP.out.1, HAP.out.2, HI.out.1, HI.out.2, HC.out.1, HC.out.2]; exact HON.out)
                        clear hn hb hb2 qa0 qa1 qi0 qi1 qc0 qc1
                        cases o with
                        | true =>
                          have HF : Hid (false = true ↔ ∀ q, q < j + 1 → goodR X Y a i q) := Lib.hid (by refine ⟨fun h => (by cases h), fun h => ?_⟩; have := (h j (by omega)).2 HR.out hja hji; rw [HOB.out] at this; cases this)
                          go_wp2_with fail
                          go_roundg (N - (j + 1))
                          case measure => omega
                          case rel => exact ⟨j + 1, false, rfl, by norm_cast, by omega, Nat.le_refl _, HF, HW3⟩
                        | false =>
                          have HF : Hid (b = true ↔ ∀ q, q < j + 1 → goodR X Y a i q) := Lib.hid (by refine HG.out.trans ⟨fun h q hq => ?_, fun h q hq => h q (by omega)⟩; rcases Nat.lt_or_ge q j with h1 | h1; exact h q h1; have e : q = j := (by omega); subst e; exact ⟨by rw [HR.out]; decide, fun _ _ _ => HOB.out⟩)
                          go_wp2_with fail
                          go_roundg (N - (j + 1))
                          case measure => omega
                          case rel => exact ⟨j + 1, b, rfl, by norm_cast, by omega, Nat.le_refl _, HF, HW3⟩
                  · go_wp2_with fail
                    refine wp_region_up w2.heap.size 28 [(true, 0), (true, 1), (true, 2), (true, 3), (true, 4), (true, 5), (true, 6), (true, 7), (true, 8), (true, 9), (true, 10), (true, 11), (true, 12), (true, 13), (true, 14), (true, 15), (true, 16), (true, 17), (true, 18), (true, 19), (true, 20), (true, 21), (true, 22), (true, 23), (true, 24), (true, 25), (true, 26), (true, 27)] (by kernel_rfl) (by kernel_rfl) (fun _ _ d _ _ h => by cases d <;> exact h) ?_
                    have hb : Below w2.heap.size w2 w2.drew := (Below.refl _ _).drew
                    iterate 28
                      refine wpS_takeL rfl rfl ?_
                      go_big_quiet_step (rfl)
                      refine wpQuiet_nil ?_
                    refine wpS_nil ?_
                    simp only [List.drop_succ_cons, List.drop_zero]
                    have HW3 := Lib.hid (HW2.out.trans (hb.mono HW2.out.size))
                    have HF : Hid (b = true ↔ ∀ q, q < j + 1 → goodR X Y a i q) := Lib.hid (by refine HG.out.trans ⟨fun h q hq => ?_, fun h q hq => h q (by omega)⟩; rcases Nat.lt_or_ge q j with h1 | h1; exact h q h1; have e : q = j := (by omega); subst e; exact ⟨by rw [HR.out]; decide, fun h => by rw [HR.out] at h; cases h⟩)
                    clear hb
                    go_wp2_with fail
                    go_roundg (N - (j + 1))
                    case measure => omega
                    case rel => exact ⟨j + 1, b, rfl, by norm_cast, by omega, Nat.le_refl _, HF, HW3⟩
                · have hjN : j = N := by omega
                  have HB2 : Hid (b = true ↔ i = z) := Lib.hid (by have h1 := HG.out; rw [hjN] at h1; exact h1.trans (HNX.out.1 i hilt hia))
                  cases b with
                  | true =>
                    have HN2 := Lib.hid (nxI_up (HB2.out.1 rfl))
                    go_wp2_with fail
                    go_roundg (N - (i + 1))
                    case measure => omega
                    case rel => exact ⟨i + 1, by rw [HN2.out], by norm_cast, by omega, Nat.le_refl _, HWj⟩
                  | false =>
                    have HN2 := Lib.hid (nxI_st (fun e => by have := HB2.out.2 e; cases this))
                    go_wp2_with fail
                    go_roundg (N - (i + 1))
                    case measure => omega
                    case rel => exact ⟨i + 1, by rw [HN2.out], by norm_cast, by omega, Nat.le_refl _, HWj⟩
          · have hiN : i = N := by omega
            have hnz : nxI z i = (z : Int) := by unfold nxI; rw [if_pos (by rw [hiN]; exact HNX.out.2.2)]
            rw [hnz]
            have hz0 : ¬ ((z : Int) < 0) := by omega
            have HST : Hid ((k + 1 = n → z = 0) ∧ (0 < k + 1 → k + 1 < n → z ≠ 0) ∧ z = gH H ((k + 1) % n)) := by
              refine Lib.hid ⟨fun h => ?_, fun _ h => ?_, HZ.out.symm⟩
              · rw [← HZ.out, h, Nat.mod_self]; exact HH.out.zero
              · rw [← HZ.out, Nat.mod_eq_of_lt h]; exact HH.out.nz _ (by omega) (by rw [HLN.out]; exact h)
            have HBB := BB.out.trans (HWi.out.mono hz1)
            have HNL2 := Lib.hid (NL3.out.of HWi.out)
            clear hnz
            go_wp2_with fail
            go_roundg (n - (k + 1))
            case measure => omega
            case rel => exact ⟨k + 1, ho2, hc2, z, rfl, rfl, by omega, Nat.le_refl _, HST.out.1, HST.out.2.1, Lib.hid HST.out.2.2, HNL2, HBB⟩
    · have hkn : k = n := by omega
      have haz := ha0 hkn
      subst haz
      subst hkn
      have hne : ((k : Int) == 0) = false := by simp; omega
      go_wp2
      go_ret
      refine ⟨_, rfl, ?_, hb⟩
      have := HNL.out
      rw [List.take_of_length_le (by rw [HLN.out]; exact Nat.le_refl _)] at this
      exact this
end Go.Proofs.Ytdlpfiiakmhnlaa

namespace Go.Proofs.Ytdlpfiiakmhnlaa
open Go.RowKit

theorem rTurn_v (ax ay bx b_y cx cy t : Int) (ht : trn ax ay bx b_y cx cy = t) (h1 : Co ax) (h2 : Co ay) (h3 : Co bx) (h4 : Co b_y) (h5 : Co cx) (h6 : Co cy) (w : World) :
    Calls Try.prog 57 #[pI ax ay, pI bx b_y, pI cx cy] w (GivesBig w t 12) := by
  subst ht
  refine (rTurn_any ax ay bx b_y cx cy h1 h2 h3 h4 h5 h6 w).mono ?_
  rintro e w2 ⟨v, rfl, h, hb⟩
  exact ⟨v, rfl, h.mono (by decide), hb⟩
/-- a sum in a variable -/
def SumB (w : World) (b : Nat) (z : Int) : Prop := ∃ neg a l c, Blk w b #[.bool neg, .slice a l c] 109 ∧ Big w (.agg #[.bool neg, .slice a l c]) z 12
theorem SumB.of {w w' : World} {b : Nat} {z : Int} (h : SumB w b z) (hb : Below w.heap.size w w') : SumB w' b z := by
  obtain ⟨neg, a, l, c, h1, h2⟩ := h
  exact ⟨neg, a, l, c, h1.of hb, h2.of hb⟩
theorem bigCmp_is0 (v v' : Value) (n m : Int) (L L' : Nat) (hm : m = n) (w : World) (h : Big w v n L) (h' : Big w v' m L') :
    Calls Try.prog 59 #[v, v'] w fun e w' => e = .returned (.int .i64 0) ∧ Below w.heap.size w w' := by
  subst hm
  refine (bigCmp_any v v' m m L L' w h h').mono ?_
  rintro e w' ⟨rfl, hb⟩
  exact ⟨by simp [cmpI], hb⟩
theorem gT_bd {N : Nat} {X Y : Nat → Int} (hg : allC N X Y = true) {a b c : Nat} (ha : a < N) (hb : b < N) (hc : c < N) : -38685626227668133590597632 ≤ gT X Y a b c ∧ gT X Y a b c ≤ 38685626227668133590597632 := by
  obtain ⟨a1, a2⟩ := allC_co hg ha
  obtain ⟨b1, b2⟩ := allC_co hg hb
  obtain ⟨c1, c2⟩ := allC_co hg hc
  exact trn_bd a1 a2 b1 b2 c1 c2
/-- what a fan of a way covers -/
def fanS (X Y : Nat → Int) (H : List Nat) (k : Nat) : Int := sumN (fun i => gT X Y (gH H 0) (gH H (i + 1)) (gH H (i + 2))) k
theorem fanS_bd {N : Nat} {X Y : Nat → Int} {H : List Nat} (hg : allC N X Y = true) (hlt : ∀ i, i < H.length → gH H i < N) : ∀ k, k + 2 ≤ H.length → -(38685626227668133590597632 * (k : Int)) ≤ fanS X Y H k ∧ fanS X Y H k ≤ 38685626227668133590597632 * (k : Int)
  | 0, _ => by show -(_ * (0 : Int)) ≤ 0 ∧ (0 : Int) ≤ _ * 0; omega
  | k + 1, h => by
    have h1 := fanS_bd hg hlt k (by omega)
    have h2 := gT_bd hg (hlt 0 (by omega)) (hlt (k + 1) (by omega)) (hlt (k + 2) (by omega))
    show _ ≤ fanS X Y H k + gT X Y (gH H 0) (gH H (k + 1)) (gH H (k + 2)) ∧ fanS X Y H k + gT X Y (gH H 0) (gH H (k + 1)) (gH H (k + 2)) ≤ _
    have e : ((k + 1 : Nat) : Int) = (k : Int) + 1 := by omega
    rw [e]; omega
set_option maxRecDepth 100000 in
set_option maxHeartbeats 4000000 in
theorem Area_is (po : Option Addr) (N pc : Nat) (X Y : Nat → Int) (H : List Nat) (base : Nat) (v : Value) (r : Nat) (w : World) (hP : Pts w po N pc X Y) (hg : allC N X Y = true) (hV : NL w base v H) (hr : H.length = r + 2) (hr60 : r ≤ 60) (hlt : ∀ i, i < H.length → gH H i < N) :
    Calls Try.prog 60 #[.slice po N pc, v] w (GivesBig w (fanS X Y H r) 12) := by
  obtain ⟨ao, cap, rfl, hcl, hcb, hcell⟩ := hV.val
  obtain ⟨g, rfl, _, hgw, hcell⟩ := hcell (by omega)
  have hpcl := hP.capl
  have hpcb := hP.capb
  have HP := Lib.hid hP
  have HG := Lib.hid hg
  have HLT := Lib.hid hlt
  have HCE := Lib.hid (show ∀ j, j < H.length → w.cell? ⟨g, j, none⟩ = some (.int .i64 (gH H j : Nat)) from fun j hj => hcell j _ (gH_at hj))
  have HRR := Lib.hid hr
  have HBD := Lib.hid (fanS_bd (H := H) hg hlt)
  clear hP hg hV hlt hcell
  rw [hr] at hcl ⊢
  clear hr
  go_enter Try.func60, Try.ntmps60
  go_wp2_with fail
  refine name_world ?_
  intro V hV
  have hb0 : Below w.heap.size w V := by rw [hV]; exact below_a2 _ _ _
  have kr : Blk V w.heap.size #[.bool false, .slice none 0 0] 109 := by rw [hV]; exact (Blk.new _ _ _).of (below_a1 _ _)
  have ks : Blk V (w.heap.size + 1) #[.bool false, .slice none 0 0] 109 := by rw [hV]; have := Blk.new (w.alloc (.cells #[.bool false, .slice none 0 0] 109)) #[.bool false, .slice none 0 0] 109; simpa using this
  obtain ⟨rb, erb⟩ : ∃ b, w.heap.size = b := ⟨_, rfl⟩
  obtain ⟨sb, esb⟩ : ∃ b, w.heap.size + 1 = b := ⟨_, rfl⟩
  rw [esb] at ks
  rw [erb] at kr
  rw [esb, erb]
  have HB0 := Lib.hid hb0
  have KS0 : Hid (SumB V sb (fanS X Y H 0)) := Lib.hid ⟨false, none, 0, 0, ks, Big.zero _ _⟩
  have KR0 := Lib.hid kr
  have hrs : rb < sb := by omega
  have hwr : w.heap.size = rb := erb
  clear hV hb0 kr ks erb esb
  go_wp2_with fail
  go_loopg [6] r (fun gk s6 wr => ∃ i : Nat, s6 = .int .i64 ((i : Int) + 1) ∧ i ≤ r ∧ r - i ≤ gk ∧ Hid (SumB wr sb (fanS X Y H i)) ∧ Hid (Blk wr rb #[.bool false, .slice none 0 0] 109) ∧ Hid (Below w.heap.size w wr))
  case atStart => exact ⟨0, rfl, by omega, by omega, KS0, KR0, HB0⟩
  case round =>
    clear HB0 KS0 KR0
    obtain ⟨i, rfl, hi, hgi, KS, KR, HB⟩ := hrel
    by_cases hlt : i < r
    · have hc1 : decide ((i : Int) + 1 + 1 < ((r + 2 : Nat) : Int)) = true := by simp; omega
      have hc2 : (i : Int) + 1 + 1 < ((r + 2 : Nat) : Int) := by omega
      obtain ⟨a, ha⟩ : ∃ a, gH H 0 = a := ⟨_, rfl⟩
      obtain ⟨b, hb_⟩ : ∃ a, gH H (i + 1) = a := ⟨_, rfl⟩
      obtain ⟨c, hc⟩ : ∃ a, gH H (i + 2) = a := ⟨_, rfl⟩
      have haN : a < N := by rw [← ha]; exact HLT.out 0 (by rw [HRR.out]; omega)
      have hbN : b < N := by rw [← hb_]; exact HLT.out (i + 1) (by rw [HRR.out]; omega)
      have hcN : c < N := by rw [← hc]; exact HLT.out (i + 2) (by rw [HRR.out]; omega)
      have e0 := HCE.out 0 (by rw [HRR.out]; omega)
      have e1 := HCE.out (i + 1) (by rw [HRR.out]; omega)
      have e2 := HCE.out (i + 2) (by rw [HRR.out]; omega)
      rw [ha] at e0
      rw [hb_] at e1
      rw [hc] at e2
      have hgr : g < wr.heap.size := Nat.lt_of_lt_of_le hgw HB.out.size
      have f0 : ∀ u : UpTo wr.heap.size wr, u.w.cell? ⟨g, 0, none⟩ = some (.int .i64 (a : Nat)) := fun u => (u.below.cell (p := ⟨g, 0, none⟩) hgr).trans ((HB.out.cell (p := ⟨g, 0, none⟩) hgw).trans e0)
      have f1 : ∀ u : UpTo wr.heap.size wr, u.w.cell? ⟨g, i + 1, none⟩ = some (.int .i64 (b : Nat)) := fun u => (u.below.cell (p := ⟨g, i + 1, none⟩) hgr).trans ((HB.out.cell (p := ⟨g, i + 1, none⟩) hgw).trans e1)
      have f2 : ∀ u : UpTo wr.heap.size wr, u.w.cell? ⟨g, i + 2, none⟩ = some (.int .i64 (c : Nat)) := fun u => (u.below.cell (p := ⟨g, i + 2, none⟩) hgr).trans ((HB.out.cell (p := ⟨g, i + 2, none⟩) hgw).trans e2)
      have f3 : ∀ u : UpTo wr.heap.size wr, u.w.cell? ⟨g, i + 1 + 1, none⟩ = some (.int .i64 (c : Nat)) := f2
      obtain ⟨pa, rfl, hpt⟩ := (HP.out.of HB.out).atP (by omega)
      have qa := hpt a haN
      have qb := hpt b hbN
      have qc := hpt c hcN
      have qa0 := fun u => (qa u).1
      have qa1 := fun u => (qa u).2
      have qb0 := fun u => (qb u).1
      have qb1 := fun u => (qb u).2
      have qc0 := fun u => (qc u).1
      have qc1 := fun u => (qc u).2
      obtain ⟨neg, da, dl, dc, ks, hz⟩ := KS.out
      have HZ := Lib.hid hz
      have HKS := Lib.hid ks
      have s0 : ∀ u : UpTo wr.heap.size wr, u.w.cell? ⟨sb, 0, none⟩ = some (.bool neg) := fun u => (ks.of u.below).cell 0
      have s1 : ∀ u : UpTo wr.heap.size wr, u.w.cell? ⟨sb, 1, none⟩ = some (.slice da dl dc) := fun u => (ks.of u.below).cell 1
      have ls := ks.lt
      obtain ⟨t, ht⟩ : ∃ t, trn (X a) (Y a) (X b) (Y b) (X c) (Y c) = t := ⟨_, rfl⟩
      have HT := Lib.hid ht
      have HCA := Lib.hid (allC_co HG.out haN)
      have HCB := Lib.hid (allC_co HG.out hbN)
      have HCC := Lib.hid (allC_co HG.out hcN)
      have HGH := Lib.hid (And.intro ha (And.intro hb_ hc))
      clear ha hb_ hc e0 e1 e2 hpt qa qb qc ks hz ht
      go_wp2_with fail
      refine wp_region_up wr.heap.size 23 [(true, 0), (true, 1), (true, 2), (true, 3), (true, 4), (true, 5), (true, 6), (true, 7), (true, 8), (true, 9), (true, 10), (true, 11), (true, 12), (true, 13), (true, 14), (true, 15), (true, 16), (true, 17), (true, 18), (true, 19), (true, 20), (true, 21), (false, 22)] (by kernel_rfl) (by kernel_rfl) (fun _ _ d _ _ h => by cases d <;> exact h) ?_
      have hb : Below wr.heap.size wr wr.drew := (Below.refl _ _).drew
      iterate 22
        refine wpS_takeL rfl rfl ?_
        go_big_quiet_step (rfl)
        refine wpQuiet_nil ?_
      refine wpS_doL rfl ?_
      intro K hK
      go_wp2_with ((go_at_call 57; (with_reducible refine (rTurn_v (X a) (Y a) (X b) (Y b) (X c) (Y c) t HT.out HCA.out.1 HCA.out.2 HCB.out.1 HCB.out.2 HCC.out.1 HCC.out.2 _).mono ?_); rintro e w2 ⟨v_, rfl, hbm, hn⟩; have HB9 := Lib.hid hbm; have hvm := hbm.shape; clear hbm; obtain ⟨bn1, ba1, bl1, bc1, rfl⟩ := hvm))
      replace hb := hb.trans (hn.mono hb.size)
      refine hK.out _ _ (up_iff.2 hb) ?_
      clear hK K
      clear hn
      refine wpS_nil ?_
      simp only [List.drop_succ_cons, List.drop_zero]
      clear f0 f1 f2 f3 qa0 qa1 qb0 qb1 qc0 qc1 s0 s1 ls
      go_wp2_with fail
      refine (bigAdd_any _ _ (fanS X Y H i) t 12 _ (HZ.out.of hb) HB9.out (by decide)).mono ?_
      rintro e W9 ⟨v9, rfl, hv9, hn9⟩
      obtain ⟨nn, na, nl, nc, rfl⟩ := hv9.shape
      have hbw := hb.trans (hn9.mono hb.size)
      have e1 : fanS X Y H (i + 1) = fanS X Y H i + t := by
        show fanS X Y H i + gT X Y (gH H 0) (gH H (i + 1)) (gH H (i + 2)) = _
        rw [← HT.out, ← gT_trn, HGH.out.1, HGH.out.2.1, HGH.out.2.2]
      have Hv : Hid (Big W9 (.agg #[.bool nn, .slice na nl nc]) (fanS X Y H (i + 1)) 12) := by
        refine Lib.hid ?_
        have hk60 : ((i + 1 : Nat) : Int) ≤ 60 := by omega
        have bd := HBD.out (i + 1) (by rw [HRR.out]; omega)
        have p12 : P15 12 = 1532495540865888858358347027150309183618739122183602176 := by decide
        rw [← e1] at hv9
        refine hv9.fit ?_
        rw [p12]; omega
      have HKS9 := Lib.hid (HKS.out.of hbw)
      have KR9 := Lib.hid (KR.out.of hbw)
      have hb9 := Lib.hid (HB.out.trans (hbw.mono HB.out.size))
      have c0 := HKS9.out.cell 0
      have c1 := HKS9.out.cell 1
      have f0 := HKS9.out.free 0
      have f1 := HKS9.out.free 1
      have ls9 := HKS9.out.lt
      clear hb hbw hv9 hn9 HZ HKS HB9 KS KR e1 HGH HT HCA HCB HCC
      go_wp2_with fail
      go_roundg (r - (i + 1))
      case measure => omega
      case rel =>
        refine ⟨i + 1, by norm_cast, by omega, Nat.le_refl _, Lib.hid ⟨nn, na, nl, nc, HKS9.out.put2 _ _, Hv.out.set2 (HKS9.out.cell 0) _ _⟩, Lib.hid ?_, Lib.hid ?_⟩
        · exact ((Below.heap_setCell _ ⟨sb, 1, none⟩ _ rb (by show rb ≠ sb; omega)).trans (Below.heap_setCell _ ⟨sb, 0, none⟩ _ rb (by show rb ≠ sb; omega))).trans KR9.out
        · exact (hb9.out.setCell (p := ⟨sb, 0, none⟩) (by show w.heap.size ≤ sb; omega) _).setCell (p := ⟨sb, 1, none⟩) (by show w.heap.size ≤ sb; omega) _
    · obtain rfl : i = r := by omega
      have hc1 : decide ((i : Int) + 1 + 1 < ((i + 2 : Nat) : Int)) = false := by simp; omega
      obtain ⟨neg, da, dl, dc, ks, hz⟩ := KS.out
      have s0 := ks.cell 0
      have s1 := ks.cell 1
      have ls := ks.lt
      have r0 := KR.out.cell 0
      have r1 := KR.out.cell 1
      have fr0 := KR.out.free 0
      have fr1 := KR.out.free 1
      have lr := KR.out.lt
      have HZ := Lib.hid hz
      simp only [List.getElem?_toArray, List.getElem?_cons_zero, List.getElem?_cons_succ] at s0 s1 r0 r1
      clear ks hz
      go_wp2
      have KF := KR.out.put2 (.bool neg) (.slice da dl dc)
      have c0 := KF.cell 0
      have c1 := KF.cell 1
      simp only [List.getElem?_toArray, List.getElem?_cons_zero, List.getElem?_cons_succ] at c0 c1
      simp [bodyPost, results, Try.results60, go_sem, c0, c1]
      exact ⟨_, rfl, HZ.out.set2 r0 _ _, (HB.out.setCell (p := ⟨rb, 0, none⟩) (by show w.heap.size ≤ rb; omega) _).setCell (p := ⟨rb, 1, none⟩) (by show w.heap.size ≤ rb; omega) _⟩
end Go.Proofs.Ytdlpfiiakmhnlaa

namespace Go.Proofs.Ytdlpfiiakmhnlaa
open Go.RowKit

/-- the digits handed back lie above B -/
def FrR (B : Nat) (e : Ending) : Prop := ∀ neg ao n cap, e = .returned (.agg #[.bool neg, .slice ao n cap]) → ao = none ∨ ∃ g, ao = some ⟨g, 0, none⟩ ∧ B ≤ g
/-- a slice handed back is of its own -/
def FrS (B : Nat) (e : Ending) : Prop := ∀ v g, e = .returned v → v.ownBlock = some g → B ≤ g
/-- the digits handed back are a part of those -/
def FrT (ao : Option Addr) (e : Ending) : Prop := ∀ neg a n cap, e = .returned (.agg #[.bool neg, .slice a n cap]) → a = none ∨ a = ao
theorem FrT.mk1 (ao : Option Addr) (neg : Bool) : FrT ao (.returned (.agg #[.bool neg, .slice none 0 0])) := by
  intro n a k c h
  injection h with h; injection h with h; injection h with h
  simp at h
  exact .inl h.2.1.symm
theorem FrT.mk2 (ao : Option Addr) (neg : Bool) (m c0 : Nat) : FrT ao (.returned (.agg #[.bool neg, .slice ao m c0])) := by
  intro n a k c h
  injection h with h; injection h with h; injection h with h
  simp at h
  exact .inr h.2.1.symm
theorem FrR.of {B : Nat} {neg : Bool} {a : Option Addr} {q c : Nat} {ao : Option Addr} {m c2 : Nat} (ht : FrT ao (.returned (.agg #[.bool neg, .slice a q c]))) (hs : FrS B (.returned (.slice ao m c2))) (hp : a = none ∨ ∃ g, a = some ⟨g, 0, none⟩) : FrR B (.returned (.agg #[.bool neg, .slice a q c])) := by
  intro n a' k c' h
  injection h with h; injection h with h; injection h with h
  simp at h
  obtain ⟨_, rfl, _, _⟩ := h
  rcases hp with e | ⟨g, e⟩
  · exact .inl e
  · refine .inr ⟨g, e, ?_⟩
    rcases ht neg a q c rfl with h | h
    · rw [h] at e; cases e
    · exact hs _ g rfl (by rw [← h, e]; rfl)
theorem FrR.neg {B : Nat} {neg : Bool} {a : Option Addr} {q c : Nat} (h : FrR B (.returned (.agg #[.bool neg, .slice a q c]))) : a = none ∨ ∃ g, a = some ⟨g, 0, none⟩ ∧ B ≤ g := h _ _ _ _ rfl
theorem Big.ptr {w : World} {neg : Bool} {a : Option Addr} {q c : Nat} {n : Int} {L : Nat} (h : Big w (.agg #[.bool neg, .slice a q c]) n L) (hq : q ≠ 0 ∨ a = none) : a = none ∨ ∃ g, a = some ⟨g, 0, none⟩ := by
  rcases hq with hq | hq
  · obtain ⟨n2, ao, b, cap, ds, e, hs, _⟩ := h
    injection e with e; injection e with e
    simp at e
    obtain ⟨_, rfl, rfl, rfl⟩ := e
    exact .inr ⟨b, hs.ptr (by omega)⟩
  · exact .inl hq
theorem FrR.of2 {B B' : Nat} {w : World} {neg : Bool} {a : Option Addr} {q c : Nat} {n : Int} {L : Nat} {ao : Option Addr} {m c2 : Nat} (ht : FrT ao (.returned (.agg #[.bool neg, .slice a q c]))) (hs : FrS B' (.returned (.slice ao m c2))) (h : Big w (.agg #[.bool neg, .slice a q c]) n L) (hB : B ≤ B') : FrR B (.returned (.agg #[.bool neg, .slice a q c])) := by
  intro n' a' k c' h2
  injection h2 with h2; injection h2 with h2; injection h2 with h2
  simp at h2
  obtain ⟨_, rfl, _, _⟩ := h2
  obtain ⟨n2, ao2, b, cap, ds, e, hsl, _, _, hz, _⟩ := h
  injection e with e; injection e with e
  simp at e
  obtain ⟨_, rfl, rfl, rfl⟩ := e
  rcases Nat.eq_zero_or_pos ds.length with h0 | h0
  · exact .inl (hz (List.length_eq_zero_iff.1 h0)).2
  · have hp := hsl.ptr h0
    refine .inr ⟨b, hp, Nat.le_trans hB ?_⟩
    rcases ht neg a ds.length c rfl with h | h
    · rw [h] at hp; cases hp
    · exact hs _ b rfl (by rw [← h, hp]; rfl)
set_option maxRecDepth 100000 in
set_option maxHeartbeats 1000000 in
theorem trim_F (neg : Bool) (ao : Option Addr) (b cap : Nat) (ds : List Int) (w : World) (hs : Sl w ao b cap ds) (hd : DigOk ds) (L : Nat) (hL : ds.length ≤ L) :
    Calls Try.prog 80 #[.agg #[.bool neg, .slice ao ds.length cap]] w (fun e w2 => GivesBig w (bif neg then -dval ds else dval ds) L e w2 ∧ FrT ao e) := by
  have HS := Lib.hid hs
  have HD := Lib.hid hd
  have HL := Lib.hid hL
  have ll := hs.len
  have cl := hs.capl
  have cb := hs.capb
  clear hs hd hL
  obtain ⟨N, hN⟩ : ∃ N, N = ds.length := ⟨_, rfl⟩
  have HN := Lib.hid hN
  rw [← hN] at ll cl ⊢
  clear hN
  go_enter Try.func80, Try.ntmps80
  go_wp2_with fail
  refine name_world ?_
  intro W hW
  have k0 : Blk W w.heap.size #[.bool neg, .slice ao N cap] 109 := by rw [hW]; exact (Blk.new _ _ _).alloc _
  have k1 : Blk W (w.heap.size + 1) #[.bool false, .slice none 0 0] 109 := by rw [hW]; exact Blk.new1 _ _ _ _
  have hb0 : Below w.heap.size w W := by rw [hW]; (repeat (first | exact Below.refl _ _ | refine below_drewN ?_ _ | refine Below.drew ?_ | refine Below.alloc ?_ (by simp) _ | refine Below.alloc ?_ (by simp; omega) _))
  clear hW
  have c0 := k0.cell 0
  have c1 := k0.cell 1
  simp only [List.getElem?_toArray, List.getElem?_cons_zero, List.getElem?_cons_succ] at c0 c1
  have d0 := k1.cell 0
  have d1 := k1.cell 1
  have f0 := k1.free 0
  have f1 := k1.free 1
  simp only [List.getElem?_toArray, List.getElem?_cons_zero, List.getElem?_cons_succ] at d0 d1
  have K0 := Lib.hid k0
  have K1 := Lib.hid k1
  have l0 := k0.lt
  clear k0 k1
  go_loopw [3] (fun i wr => ∃ k : Nat, k ≤ N ∧ i = .int .i64 k ∧ Hid (dval (ds.take k) = dval ds) ∧ W = wr) (fun i _ => (intOf i).toNat)
  case atStart => exact ⟨N, Nat.le_refl _, rfl, (by rw [List.take_of_length_le (by rw [HN.out]; exact Nat.le_refl _)] : dval (ds.take N) = dval ds), rfl⟩
  case round =>
    rename_i i0 wr
    obtain ⟨k, hk, rfl, hd, rfl⟩ := hrel
    cases k with
    | zero =>
      have hz : dval ds = 0 := by have := hd.out; rw [List.take_zero] at this; exact this.symm
      have HZ := Lib.hid hz
      clear hz hd
      go_wp2
      simp [bodyPost, results, Try.results80, go_sem, d0, d1]
      refine ⟨⟨_, rfl, ?_, ?_⟩, FrT.mk1 _ _⟩
      · have e : (bif neg then -dval ds else dval ds) = 0 := by rw [HZ.out]; cases neg <;> rfl
        rw [e]; exact Big.zero _ _
      · refine Below.setCell (Below.setCell hb0 ?_ _) ?_ _ <;> exact Nat.le_succ _
    | succ j =>
      have ja : j < ds.length := by rw [← HN.out]; omega
      obtain rfl := HS.out.ptr (by omega)
      have ba := HS.out.blk (by omega)
      have e0 : W.cell? ⟨b, j, none⟩ = some (.int .i64 (ds.getD j 0)) := by rw [hb0.cell (p := ⟨b, j, none⟩) ba]; exact HS.out.cell j ja
      obtain ⟨x, hx⟩ : ∃ x, x = ds.getD j 0 := ⟨_, rfl⟩
      rw [← hx] at e0
      have HX := Lib.hid hx
      have JA := Lib.hid ja
      clear hx ja ba
      have e1 : ((j + 1 : Nat) : Int) - 1 = (j : Int) := by omega
      by_cases hx0 : x = 0
      · subst hx0
        go_wp2
        go_roundw
        case rel => exact ⟨j, by omega, by go_num, dval_take_zero JA.out HX.out.symm hd.out, trivial⟩
        case measure => simp [intOf]
      · have hx1 : (x == 0) = false := by simpa using hx0
        have HX0 := Lib.hid hx0
        clear hx0
        go_wp2_with fail
        have D0 := Lib.hid d0
        have D1 := Lib.hid d1
        clear d0 d1
        have hj1 : (0 : Int) ≤ ((j + 1 : Nat) : Int) := by omega
        refine wp_region_up W.heap.size 6 [(true, 0), (true, 1), (true, 2), (true, 3), (true, 4), (true, 5)] (by kernel_rfl) (by kernel_rfl) (fun _ _ d _ _ h => by cases d <;> exact h) ?_
        have hb : Below W.heap.size W W.drew := (Below.refl _ _).drew
        iterate 6
          refine wpS_takeL rfl rfl ?_
          go_big_quiet_step (rfl)
          refine wpQuiet_nil ?_
        refine wpS_nil ?_
        simp only [List.drop_succ_cons, List.drop_zero]
        have d0 := D0.out
        have d1 := D1.out
        go_wp2
        simp [bodyPost, results, Try.results80, go_sem, d0, d1]
        have hbl : Below w.heap.size w ((W.setCell ⟨w.heap.size + 1, 0, none⟩ (.bool neg)).setCell ⟨w.heap.size + 1, 1, none⟩ (.slice (some ⟨b, 0, none⟩) (j + 1) cap)).drew := by
          refine (Below.setCell (Below.setCell hb0 ?_ _) ?_ _).drew <;> exact Nat.le_succ _
        have hlen : (ds.take (j + 1)).length = j + 1 := by rw [List.length_take]; have := JA.out; omega
        refine ⟨⟨_, rfl, ⟨neg, some ⟨b, 0, none⟩, b, cap, ds.take (j + 1), by rw [hlen], ?_, HD.out.take _, .inr ?_, fun h => ?_, by rw [hd.out], ?_⟩, hbl⟩, FrT.mk2 _ _ _ _⟩
        · exact (HS.out.of hbl).cut JA.out
        · rw [hlen]
          have := HX0.out
          rw [HX.out] at this
          simpa [List.getElem?_take] using this
        · rw [h] at hlen; simp at hlen
        · rw [hlen]; have := HL.out; have := JA.out; omega
set_option maxRecDepth 100000 in
set_option maxHeartbeats 4000000 in
theorem more_F (ao bo : Option Addr) (b b' cap cap' : Nat) (xs ys : List Int) (w : World) (ha : Sl w ao b cap xs) (hb : Sl w bo b' cap' ys) (hl1 : xs.length < 536870912) (hl2 : ys.length < 536870912) (da : DigOk xs) (db : DigOk ys) :
    Calls Try.prog 81 #[.slice ao xs.length cap, .slice bo ys.length cap'] w (fun e w2 => GivesDig w (dval xs + dval ys) (max xs.length ys.length + 1) e w2 ∧ FrS w.heap.size e) := by
  obtain ⟨i0, hi, hz0, hz1, hz2⟩ := info_parts info_int
  have HA := Lib.hid ha
  have HB := Lib.hid hb
  have D := Lib.hid (And.intro da db)
  have la := hl1
  have lb := hl2
  clear ha hb da db hl1 hl2
  obtain ⟨N, hN⟩ : ∃ N, N = xs.length := ⟨_, rfl⟩
  obtain ⟨M, hM⟩ : ∃ M, M = ys.length := ⟨_, rfl⟩
  have HN := Lib.hid hN
  have HM := Lib.hid hM
  rw [← hN] at la ⊢
  rw [← hM] at lb ⊢
  clear hN hM
  go_enter Try.func81, Try.ntmps81
  go_wp2_with fail
  go_loopw [5, 6, 7] (fun out c i wr => ∃ (k : Nat) (cv : Int) (ds : List Int), (k ≤ N ∨ k ≤ M) ∧ i = .int .i64 k ∧ c = .int .i64 cv ∧ 0 ≤ cv ∧ cv ≤ 1 ∧ wr.ownsRow w.heap.size 3 1 out k (dg ds) ∧
      Hid (DigOk ds ∧ ds.length = k ∧ dval ds + P15 k * cv = dval (xs.take k) + dval (ys.take k)) ∧ Below w.heap.size w wr) (fun _ _ i _ => N + M - (intOf i).toNat)
  case atStart => exact ⟨0, 0, [], .inl (Nat.zero_le _), rfl, rfl, by decide, by decide, World.ownsRow_nil _ _ _ _, ⟨DigOk.nil, rfl, by simp [dval]⟩, Below.refl _ _⟩
  case round =>
    rename_i wr
    obtain ⟨k, cv, ds, hk, rfl, rfl, cv0, cv1, hown, hds, hbl⟩ := hrel
    by_cases h1 : k < N
    · by_cases h2 : k < M
      · have ja : k < xs.length := by rw [← HN.out]; exact h1
        obtain rfl := HA.out.ptr (by omega)
        have e0 : wr.cell? ⟨b, k, none⟩ = some (.int .i64 (xs.getD k 0)) := by rw [hbl.cell (p := ⟨b, k, none⟩) (HA.out.blk (by omega))]; exact HA.out.cell k ja
        clear ja
        have jb : k < ys.length := by rw [← HM.out]; exact h2
        obtain rfl := HB.out.ptr (by omega)
        have e1 : wr.cell? ⟨b', k, none⟩ = some (.int .i64 (ys.getD k 0)) := by rw [hbl.cell (p := ⟨b', k, none⟩) (HB.out.blk (by omega))]; exact HB.out.cell k jb
        clear jb
        obtain ⟨x0, x1⟩ := D.out.1.get k
        obtain ⟨y0, y1⟩ := D.out.2.get k
        obtain ⟨x, hx⟩ : ∃ x, x = xs.getD k 0 := ⟨_, rfl⟩
        obtain ⟨y, hy⟩ : ∃ y, y = ys.getD k 0 := ⟨_, rfl⟩
        rw [← hx] at x0 x1 e0
        rw [← hy] at y0 y1 e1
        have hst := more_step hx hy ⟨x0, x1⟩ ⟨y0, y1⟩ ⟨cv0, cv1⟩ hds.out
        have ST := Lib.hid hst
        have HX := Lib.hid hx
        have HY := Lib.hid hy
        clear hst hx hy hds
        go_wp2_with (at_builtin; refine wpList_append_own _ rfl _ _ 29 rfl w.heap.size 3 i0 (.int .i64 0) 1 8 Try.underlying29 hi hz0 hz1 hz2 rfl (by decide) _ _ _ rfl (hown.alloc _) ⟨wr.heap.size, 0, none⟩ 1 1 [.int .i64 ((cv + x + y) % 32768)] rfl rfl ?c1 ?c2 ?c3 ?c4 ?c5 ?_)
        case c1 =>
          intro j u hj
          match j, hj with
          | 0, hj => simp at hj; subst hj; simp [Addr.add]
        case c2 => intro u hu; simp at hu; subst hu; rfl
        case c3 => unfold maxLen; omega
        case c4 => omega
        case c5 => have := hbl.size; simp; omega
        intro v' w1 hown' hgrow _
        have hb1 : Below w.heap.size w w1 := (hbl.alloc hbl.size _).grown hgrow (by have := hbl.size; simp; omega) (fun k hk => (hown.lt k hk).1)
        rw [← dg_snoc] at hown'
        clear hown hbl hgrow
        go_wp2
        go_roundw
        case rel => exact ⟨k + 1, (cv + x + y) / 32768, _, by omega, by go_num, rfl, ST.out.1.1, ST.out.1.2, hown', ST.out.2, hb1⟩
        case measure => simp [intOf]; omega
      · have ja : k < xs.length := by rw [← HN.out]; exact h1
        obtain rfl := HA.out.ptr (by omega)
        have e0 : wr.cell? ⟨b, k, none⟩ = some (.int .i64 (xs.getD k 0)) := by rw [hbl.cell (p := ⟨b, k, none⟩) (HA.out.blk (by omega))]; exact HA.out.cell k ja
        clear ja
        obtain ⟨x0, x1⟩ := D.out.1.get k
        obtain ⟨y0, y1⟩ := D.out.2.get k
        obtain ⟨x, hx⟩ : ∃ x, x = xs.getD k 0 := ⟨_, rfl⟩
        obtain ⟨y, hy⟩ : ∃ y, y = ys.getD k 0 := ⟨_, rfl⟩
        rw [← hx] at x0 x1 e0
        rw [← hy] at y0 y1
        have hst := more_step hx hy ⟨x0, x1⟩ ⟨y0, y1⟩ ⟨cv0, cv1⟩ hds.out
        have hy0 : y = 0 := hy.trans (getD_out (by rw [← HM.out]; omega))
        subst hy0
        simp only [Int.add_zero] at hst
        have ST := Lib.hid hst
        have HX := Lib.hid hx
        have HY := Lib.hid hy
        clear hst hx hy hds
        go_wp2_with (at_builtin; refine wpList_append_own _ rfl _ _ 29 rfl w.heap.size 3 i0 (.int .i64 0) 1 8 Try.underlying29 hi hz0 hz1 hz2 rfl (by decide) _ _ _ rfl (hown.alloc _) ⟨wr.heap.size, 0, none⟩ 1 1 [.int .i64 ((cv + x) % 32768)] rfl rfl ?c1 ?c2 ?c3 ?c4 ?c5 ?_)
        case c1 =>
          intro j u hj
          match j, hj with
          | 0, hj => simp at hj; subst hj; simp [Addr.add]
        case c2 => intro u hu; simp at hu; subst hu; rfl
        case c3 => unfold maxLen; omega
        case c4 => omega
        case c5 => have := hbl.size; simp; omega
        intro v' w1 hown' hgrow _
        have hb1 : Below w.heap.size w w1 := (hbl.alloc hbl.size _).grown hgrow (by have := hbl.size; simp; omega) (fun k hk => (hown.lt k hk).1)
        rw [← dg_snoc] at hown'
        clear hown hbl hgrow
        go_wp2
        go_roundw
        case rel => exact ⟨k + 1, (cv + x) / 32768, _, by omega, by go_num, rfl, ST.out.1.1, ST.out.1.2, hown', ST.out.2, hb1⟩
        case measure => simp [intOf]; omega
    · by_cases h2 : k < M
      · have jb : k < ys.length := by rw [← HM.out]; exact h2
        obtain rfl := HB.out.ptr (by omega)
        have e1 : wr.cell? ⟨b', k, none⟩ = some (.int .i64 (ys.getD k 0)) := by rw [hbl.cell (p := ⟨b', k, none⟩) (HB.out.blk (by omega))]; exact HB.out.cell k jb
        clear jb
        obtain ⟨x0, x1⟩ := D.out.1.get k
        obtain ⟨y0, y1⟩ := D.out.2.get k
        obtain ⟨x, hx⟩ : ∃ x, x = xs.getD k 0 := ⟨_, rfl⟩
        obtain ⟨y, hy⟩ : ∃ y, y = ys.getD k 0 := ⟨_, rfl⟩
        rw [← hx] at x0 x1
        rw [← hy] at y0 y1 e1
        have hst := more_step hx hy ⟨x0, x1⟩ ⟨y0, y1⟩ ⟨cv0, cv1⟩ hds.out
        have hx0 : x = 0 := hx.trans (getD_out (by rw [← HN.out]; omega))
        subst hx0
        rw [Int.add_zero] at hst
        have ST := Lib.hid hst
        have HX := Lib.hid hx
        have HY := Lib.hid hy
        clear hst hx hy hds
        go_wp2_with (at_builtin; refine wpList_append_own _ rfl _ _ 29 rfl w.heap.size 3 i0 (.int .i64 0) 1 8 Try.underlying29 hi hz0 hz1 hz2 rfl (by decide) _ _ _ rfl (hown.alloc _) ⟨wr.heap.size, 0, none⟩ 1 1 [.int .i64 ((cv + y) % 32768)] rfl rfl ?c1 ?c2 ?c3 ?c4 ?c5 ?_)
        case c1 =>
          intro j u hj
          match j, hj with
          | 0, hj => simp at hj; subst hj; simp [Addr.add]
        case c2 => intro u hu; simp at hu; subst hu; rfl
        case c3 => unfold maxLen; omega
        case c4 => omega
        case c5 => have := hbl.size; simp; omega
        intro v' w1 hown' hgrow _
        have hb1 : Below w.heap.size w w1 := (hbl.alloc hbl.size _).grown hgrow (by have := hbl.size; simp; omega) (fun k hk => (hown.lt k hk).1)
        rw [← dg_snoc] at hown'
        clear hown hbl hgrow
        go_wp2
        go_roundw
        case rel => exact ⟨k + 1, (cv + y) / 32768, _, by omega, by go_num, rfl, ST.out.1.1, ST.out.1.2, hown', ST.out.2, hb1⟩
        case measure => simp [intOf]; omega
      · have ST := Lib.hid hds.out
        clear hds
        go_wp2_with (at_builtin; refine wpList_append_own _ rfl _ _ 29 rfl w.heap.size 3 i0 (.int .i64 0) 1 8 Try.underlying29 hi hz0 hz1 hz2 rfl (by decide) _ _ _ rfl (hown.alloc _) ⟨wr.heap.size, 0, none⟩ 1 1 [.int .i64 cv] rfl rfl ?c1 ?c2 ?c3 ?c4 ?c5 ?_)
        case c1 =>
          intro j u hj
          match j, hj with
          | 0, hj => simp at hj; subst hj; simp [Addr.add]
        case c2 => intro u hu; simp at hu; subst hu; rfl
        case c3 => unfold maxLen; omega
        case c4 => omega
        case c5 => have := hbl.size; simp; omega
        intro v' w1 hown' hgrow _
        have hb1 : Below w.heap.size w w1 := (hbl.alloc hbl.size _).grown hgrow (by have := hbl.size; simp; omega) (fun k hk => (hown.lt k hk).1)
        rw [← dg_snoc] at hown'
        clear hown hbl hgrow
        go_wp2
        go_ret
        obtain ⟨g1, g2, g3⟩ := ST.out
        have gl : (ds ++ [cv]).length = k + 1 := by rw [List.length_append, g2]; rfl
        obtain ⟨ao2, b2, cap2, hv, hsl⟩ := own_sl hown' gl (by omega)
        refine ⟨⟨ao2, b2, cap2, ds ++ [cv], ?_, hsl, g1.append (DigOk.one ⟨cv0, by omega⟩), ?_, ?_, hb1⟩, fun v g hv hg => by injection hv with hv; subst hv; exact (hown'.lt g hg).1⟩
        · rw [← hv]; rfl
        · rw [dval_append, g2]
          have : dval [cv] = cv := by simp [dval]
          rw [this, g3, List.take_of_length_le (by rw [← HN.out]; omega), List.take_of_length_le (by rw [← HM.out]; omega)]
        · rw [gl]; omega
set_option maxRecDepth 100000 in
set_option maxHeartbeats 4000000 in
theorem less_F (ao bo : Option Addr) (b b' cap cap' : Nat) (xs ys : List Int) (w : World) (ha : Sl w ao b cap xs) (hb : Sl w bo b' cap' ys) (hl1 : xs.length < 536870912) (da : DigOk xs) (db : DigOk ys) (hle : ys.length ≤ xs.length) (hge : dval ys ≤ dval xs) :
    Calls Try.prog 83 #[.slice ao xs.length cap, .slice bo ys.length cap'] w (fun e w2 => GivesDig w (dval xs - dval ys) xs.length e w2 ∧ FrS w.heap.size e) := by
  obtain ⟨i0, hi, hz0, hz1, hz2⟩ := info_parts info_int
  have HA := Lib.hid ha
  have HB := Lib.hid hb
  have D := Lib.hid (And.intro da db)
  have G := Lib.hid hge
  have la := hl1
  clear ha hb da db hl1 hge
  obtain ⟨N, hN⟩ : ∃ N, N = xs.length := ⟨_, rfl⟩
  obtain ⟨M, hM⟩ : ∃ M, M = ys.length := ⟨_, rfl⟩
  have HN := Lib.hid hN
  have HM := Lib.hid hM
  rw [← hN] at la hle ⊢
  rw [← hM] at hle ⊢
  clear hN hM
  go_enter Try.func83, Try.ntmps83
  go_wp2_with fail
  go_loopw [5, 6, 7] (fun out c i wr => ∃ (k : Nat) (cv : Int) (ds : List Int), k ≤ N ∧ i = .int .i64 k ∧ c = .int .i64 cv ∧ 0 ≤ cv ∧ cv ≤ 1 ∧ wr.ownsRow w.heap.size 3 1 out k (dg ds) ∧
      Hid (DigOk ds ∧ ds.length = k ∧ dval ds - P15 k * cv = dval (xs.take k) - dval (ys.take k)) ∧ Below w.heap.size w wr) (fun _ _ i _ => N - (intOf i).toNat)
  case atStart => exact ⟨0, 0, [], Nat.zero_le _, rfl, rfl, by decide, by decide, World.ownsRow_nil _ _ _ _, ⟨DigOk.nil, rfl, by simp [dval]⟩, Below.refl _ _⟩
  case round =>
    rename_i wr
    obtain ⟨k, cv, ds, hk, rfl, rfl, cv0, cv1, hown, hds, hbl⟩ := hrel
    by_cases h1 : k < N
    · by_cases h2 : k < M
      · have ja : k < xs.length := by rw [← HN.out]; exact h1
        obtain rfl := HA.out.ptr (by omega)
        have e0 : wr.cell? ⟨b, k, none⟩ = some (.int .i64 (xs.getD k 0)) := by rw [hbl.cell (p := ⟨b, k, none⟩) (HA.out.blk (by omega))]; exact HA.out.cell k ja
        clear ja
        have jb : k < ys.length := by rw [← HM.out]; exact h2
        obtain rfl := HB.out.ptr (by omega)
        have e1 : wr.cell? ⟨b', k, none⟩ = some (.int .i64 (ys.getD k 0)) := by rw [hbl.cell (p := ⟨b', k, none⟩) (HB.out.blk (by omega))]; exact HB.out.cell k jb
        clear jb
        obtain ⟨x0, x1⟩ := D.out.1.get k
        obtain ⟨y0, y1⟩ := D.out.2.get k
        obtain ⟨x, hx⟩ : ∃ x, x = xs.getD k 0 := ⟨_, rfl⟩
        obtain ⟨y, hy⟩ : ∃ y, y = ys.getD k 0 := ⟨_, rfl⟩
        rw [← hx] at x0 x1 e0
        rw [← hy] at y0 y1 e1
        by_cases hneg : x - cv - y < 0
        · have hst := less_step (d := x - cv - y + 32768) (c := 1) hx hy (by omega) (by omega) hds.out
          have ST := Lib.hid hst
          have HX := Lib.hid hx
          have HY := Lib.hid hy
          clear hst hx hy hds
          go_wp2_with (at_builtin; refine wpList_append_own _ rfl _ _ 29 rfl w.heap.size 3 i0 (.int .i64 0) 1 8 Try.underlying29 hi hz0 hz1 hz2 rfl (by decide) _ _ _ rfl (hown.alloc _) ⟨wr.heap.size, 0, none⟩ 1 1 [.int .i64 (x - cv - y + 32768)] rfl rfl (one_new _ _ _) (one_cell _) (by unfold maxLen; omega) (by omega) (by have := hbl.size; simp; omega) ?_; intro v' w1 hown' hgrow _)
          have hb1 : Below w.heap.size w w1 := (hbl.alloc hbl.size _).grown hgrow (by have := hbl.size; simp; omega) (fun k hk => (hown.lt k hk).1)
          rw [← dg_snoc] at hown'
          clear hown hbl hgrow
          go_wp2
          go_roundw
          case rel => exact ⟨k + 1, 1, _, by omega, by go_num, rfl, by decide, by decide, hown', ST.out, hb1⟩
          case measure => simp [intOf]; omega
        · have hst := less_step (d := x - cv - y) (c := 0) hx hy (by omega) (by omega) hds.out
          have ST := Lib.hid hst
          have HX := Lib.hid hx
          have HY := Lib.hid hy
          clear hst hx hy hds
          go_wp2_with (at_builtin; refine wpList_append_own _ rfl _ _ 29 rfl w.heap.size 3 i0 (.int .i64 0) 1 8 Try.underlying29 hi hz0 hz1 hz2 rfl (by decide) _ _ _ rfl (hown.alloc _) ⟨wr.heap.size, 0, none⟩ 1 1 [.int .i64 (x - cv - y)] rfl rfl (one_new _ _ _) (one_cell _) (by unfold maxLen; omega) (by omega) (by have := hbl.size; simp; omega) ?_; intro v' w1 hown' hgrow _)
          have hb1 : Below w.heap.size w w1 := (hbl.alloc hbl.size _).grown hgrow (by have := hbl.size; simp; omega) (fun k hk => (hown.lt k hk).1)
          rw [← dg_snoc] at hown'
          clear hown hbl hgrow
          go_wp2
          go_roundw
          case rel => exact ⟨k + 1, 0, _, by omega, by go_num, rfl, by decide, by decide, hown', ST.out, hb1⟩
          case measure => simp [intOf]; omega
      · have ja : k < xs.length := by rw [← HN.out]; exact h1
        obtain rfl := HA.out.ptr (by omega)
        have e0 : wr.cell? ⟨b, k, none⟩ = some (.int .i64 (xs.getD k 0)) := by rw [hbl.cell (p := ⟨b, k, none⟩) (HA.out.blk (by omega))]; exact HA.out.cell k ja
        clear ja
        obtain ⟨x0, x1⟩ := D.out.1.get k
        obtain ⟨y0, y1⟩ := D.out.2.get k
        obtain ⟨x, hx⟩ : ∃ x, x = xs.getD k 0 := ⟨_, rfl⟩
        obtain ⟨y, hy⟩ : ∃ y, y = ys.getD k 0 := ⟨_, rfl⟩
        rw [← hx] at x0 x1 e0
        rw [← hy] at y0 y1
        have hy0 : y = 0 := hy.trans (getD_out (by rw [← HM.out]; omega))
        subst hy0
        by_cases hneg : x - cv < 0
        · have hst := less_step (d := x - cv + 32768) (c := 1) hx hy (by omega) (by omega) hds.out
          have ST := Lib.hid hst
          have HX := Lib.hid hx
          have HY := Lib.hid hy
          clear hst hx hy hds
          go_wp2_with (at_builtin; refine wpList_append_own _ rfl _ _ 29 rfl w.heap.size 3 i0 (.int .i64 0) 1 8 Try.underlying29 hi hz0 hz1 hz2 rfl (by decide) _ _ _ rfl (hown.alloc _) ⟨wr.heap.size, 0, none⟩ 1 1 [.int .i64 (x - cv + 32768)] rfl rfl (one_new _ _ _) (one_cell _) (by unfold maxLen; omega) (by omega) (by have := hbl.size; simp; omega) ?_; intro v' w1 hown' hgrow _)
          have hb1 : Below w.heap.size w w1 := (hbl.alloc hbl.size _).grown hgrow (by have := hbl.size; simp; omega) (fun k hk => (hown.lt k hk).1)
          rw [← dg_snoc] at hown'
          clear hown hbl hgrow
          go_wp2
          go_roundw
          case rel => exact ⟨k + 1, 1, _, by omega, by go_num, rfl, by decide, by decide, hown', ST.out, hb1⟩
          case measure => simp [intOf]; omega
        · have hst := less_step (d := x - cv) (c := 0) hx hy (by omega) (by omega) hds.out
          have ST := Lib.hid hst
          have HX := Lib.hid hx
          have HY := Lib.hid hy
          clear hst hx hy hds
          go_wp2_with (at_builtin; refine wpList_append_own _ rfl _ _ 29 rfl w.heap.size 3 i0 (.int .i64 0) 1 8 Try.underlying29 hi hz0 hz1 hz2 rfl (by decide) _ _ _ rfl (hown.alloc _) ⟨wr.heap.size, 0, none⟩ 1 1 [.int .i64 (x - cv)] rfl rfl (one_new _ _ _) (one_cell _) (by unfold maxLen; omega) (by omega) (by have := hbl.size; simp; omega) ?_; intro v' w1 hown' hgrow _)
          have hb1 : Below w.heap.size w w1 := (hbl.alloc hbl.size _).grown hgrow (by have := hbl.size; simp; omega) (fun k hk => (hown.lt k hk).1)
          rw [← dg_snoc] at hown'
          clear hown hbl hgrow
          go_wp2
          go_roundw
          case rel => exact ⟨k + 1, 0, _, by omega, by go_num, rfl, by decide, by decide, hown', ST.out, hb1⟩
          case measure => simp [intOf]; omega
    · have ST := Lib.hid hds.out
      clear hds
      go_wp2
      go_ret
      obtain ⟨g1, g2, g3⟩ := ST.out
      obtain ⟨ao2, b2, cap2, hv, hsl⟩ := own_sl hown g2 (by omega)
      have hkN : k = xs.length := by rw [← HN.out]; omega
      rw [List.take_of_length_le (by omega), List.take_of_length_le (by rw [← HM.out]; omega)] at g3
      have hbd := dval_bd g1
      rw [g2] at hbd
      have hge := G.out
      have hc : cv = 0 := by
        rcases (show cv = 0 ∨ cv = 1 by omega) with h | h
        · exact h
        · rw [h, Int.mul_one] at g3; omega
      rw [hc, Int.mul_zero, Int.sub_zero] at g3
      exact ⟨⟨ao2, b2, cap2, ds, by rw [← hv]; rfl, hsl, g1, g3, by omega, hbl⟩, fun v g hv hg => by injection hv with hv; subst hv; exact (hown.lt g hg).1⟩
set_option maxRecDepth 100000 in
set_option maxHeartbeats 600000 in
theorem bigAdd_sameF (neg : Bool) (ao bo : Option Addr) (b b' cap cap' : Nat) (xs ys : List Int) (w : World) (ha : Sl w ao b cap xs) (hb : Sl w bo b' cap' ys) (da : DigOk xs) (db : DigOk ys)
    (hl1 : xs.length < 268435456) (hl2 : ys.length < 268435456) :
    Calls Try.prog 56 #[.agg #[.bool neg, .slice ao xs.length cap], .agg #[.bool neg, .slice bo ys.length cap']] w
      (fun e w2 => GivesBig w (bif neg then -(dval xs + dval ys) else dval xs + dval ys) (max xs.length ys.length + 1) e w2 ∧ FrR w.heap.size e) := by
  have HA := Lib.hid ha
  have HB := Lib.hid hb
  have D := Lib.hid (And.intro da db)
  have HL := Lib.hid (And.intro hl1 hl2)
  clear ha hb da db hl1 hl2
  go_enter Try.func56, Try.ntmps56
  go_wp2_with fail
  refine name_world ?_
  intro W hW
  have k0 : Blk W w.heap.size #[.bool neg, .slice ao xs.length cap] 109 := by rw [hW]; exact ((Blk.new _ _ _).alloc _).alloc _
  have k1 : Blk W (w.heap.size + 1) #[.bool neg, .slice bo ys.length cap'] 109 := by rw [hW]; exact (Blk.new1 _ _ _ _).alloc _
  have k2 : Blk W (w.heap.size + 1 + 1) #[.bool false, .slice none 0 0] 109 := by rw [hW]; exact Blk.new2 _ _ _ _ _
  have hb0 : Below w.heap.size w W := by rw [hW]; exact below_a3 _ _ _ _
  clear hW
  have c0 := k0.cell 0
  have c1 := k0.cell 1
  have d0 := k1.cell 0
  have d1 := k1.cell 1
  simp only [List.getElem?_toArray, List.getElem?_cons_zero, List.getElem?_cons_succ] at c0 c1 d0 d1
  have l0 := k0.lt
  have l1 := k1.lt
  have K2 := Lib.hid k2
  clear k0 k1 k2
  refine wp_region_up W.heap.size 7 [(true, 0), (true, 1), (true, 2), (true, 3), (true, 4), (true, 5), (false, 6)] (by kernel_rfl) (by kernel_rfl) (fun _ _ d _ _ h => by cases d <;> exact h) ?_
  have hb : Below W.heap.size W W.drew := (Below.refl _ _).drew
  have hsz0 : w.heap.size ≤ W.drew.heap.size := hb0.size
  iterate 6
    refine wpS_takeL rfl rfl ?_
    go_big_quiet_step (rfl)
    refine wpQuiet_nil ?_
  refine wpS_doL rfl ?_
  intro K hK
  go_wp2_with ((go_at_call 81; refine (more_F ao bo b b' cap cap' xs ys _ (HA.out.of (hb0.trans (hb.mono hb0.size))) (HB.out.of (hb0.trans (hb.mono hb0.size))) (by have := HL.out; omega) (by have := HL.out; omega) D.out.1 D.out.2).mono ?_; rintro e w2 ⟨⟨ao2, b2, cap2, ds2, rfl, hsl2, hdg2, hv2, hl2, hn⟩, hfs⟩; have HFS := Lib.hid hfs; clear hfs; have SL := Lib.hid hsl2; have DG := Lib.hid hdg2; have HV := Lib.hid hv2; have HL2 := Lib.hid hl2; clear hsl2 hdg2 hv2 hl2))
  replace hb := hb.trans (hn.mono hb.size)
  refine hK.out _ _ (up_iff.2 hb) ?_
  clear hK K
  clear hn
  refine wpS_nil ?_
  simp only [List.drop_succ_cons, List.drop_zero]
  have hb1 : Below w.heap.size w w2 := hb0.trans (hb.mono hb0.size)
  have k2 : Blk w2 (w.heap.size + 1 + 1) #[.bool false, .slice none 0 0] 109 := K2.out.of hb
  clear c0 c1 d0 d1 l0 l1 K2 hb hb0
  go_wp2_with fail
  refine (trim_F neg ao2 b2 cap2 ds2 _ SL.out DG.out (max xs.length ys.length + 1) (by rw [HL2.out]; exact Nat.le_refl _)).mono ?_
  rintro e w3 ⟨⟨v3, rfl, hbig, hn⟩, hft⟩
  rw [HV.out] at hbig
  have HBG := Lib.hid hbig
  have hvv := hbig.shape
  clear hbig
  obtain ⟨n3, a3, q3, c3, rfl⟩ := hvv
  have HFT := Lib.hid hft
  clear hft
  replace k2 : Blk w3 _ _ _ := k2.of hn
  have d0 := k2.cell 0
  have d1 := k2.cell 1
  have f0 := k2.free 0
  have f1 := k2.free 1
  simp only [List.getElem?_toArray, List.getElem?_cons_zero, List.getElem?_cons_succ] at d0 d1
  have hb2 := hb1.trans (hn.mono hb1.size)
  clear hn k2 hb1
  go_wp2
  simp [bodyPost, results, Try.results56, go_sem, d0, d1]
  refine ⟨⟨_, rfl, ?_, set2_below hb2 ?_ _ _⟩, FrR.of2 HFT.out HFS.out HBG.out hsz0⟩
  · have := HBG.out.set2 d0 (.bool n3) (.slice a3 q3 c3)
    exact this
  · omega
set_option maxRecDepth 100000 in
set_option maxHeartbeats 600000 in
theorem bigAdd_geF (neg : Bool) (ao bo : Option Addr) (b b' cap cap' : Nat) (xs ys : List Int) (w : World) (ha : Sl w ao b cap xs) (hb : Sl w bo b' cap' ys) (da : DigOk xs) (db : DigOk ys) (na : Norm xs) (nb : Norm ys) (hcmp : dval ys ≤ dval xs)
    (hl1 : xs.length < 268435456) (hl2 : ys.length < 268435456) :
    Calls Try.prog 56 #[.agg #[.bool neg, .slice ao xs.length cap], .agg #[.bool (!neg), .slice bo ys.length cap']] w
      (fun e w2 => GivesBig w (bif neg then -(dval xs - dval ys) else dval xs - dval ys) xs.length e w2 ∧ FrR w.heap.size e) := by
  have HC := Lib.hid hcmp
  have NN := Lib.hid (And.intro na nb)
  have HA := Lib.hid ha
  have HB := Lib.hid hb
  have D := Lib.hid (And.intro da db)
  have HL := Lib.hid (And.intro hl1 hl2)
  have hle : ys.length ≤ xs.length := by
    rcases Nat.lt_or_ge xs.length ys.length with h | h
    · have := len_lt da db nb h; omega
    · exact h
  have HLE := Lib.hid hle
  clear hle
  clear ha hb da db hl1 hl2 hcmp na nb
  go_enter Try.func56, Try.ntmps56
  cases neg
  · go_wp2_with fail
    refine calls_w ?_
    intro W hW
    have k0 : Blk W w.heap.size #[.bool false, .slice ao xs.length cap] 109 := by rw [hW]; exact ((Blk.new _ _ _).alloc _).alloc _
    have k1 : Blk W (w.heap.size + 1) #[.bool true, .slice bo ys.length cap'] 109 := by rw [hW]; exact (Blk.new1 _ _ _ _).alloc _
    have k2 : Blk W (w.heap.size + 1 + 1) #[.bool false, .slice none 0 0] 109 := by rw [hW]; exact Blk.new2 _ _ _ _ _
    have hb0 : Below w.heap.size w W := by rw [hW]; exact below_a3 _ _ _ _
    clear hW
    refine (sizes_any ao bo b b' cap cap' xs ys _ (HA.out.of hb0) (HB.out.of hb0) D.out.1 D.out.2 NN.out.1 NN.out.2).mono ?_
    rintro e w1 ⟨rfl, hn⟩
    replace k0 : Blk w1 _ _ _ := k0.of hn
    replace k1 : Blk w1 _ _ _ := k1.of hn
    replace k2 : Blk w1 _ _ _ := k2.of hn
    replace hb0 := hb0.trans (hn.mono hb0.size)
    clear hn
    have c0 := k0.cell 0
    have c1 := k0.cell 1
    have d0 := k1.cell 0
    have d1 := k1.cell 1
    simp only [List.getElem?_toArray, List.getElem?_cons_zero, List.getElem?_cons_succ] at c0 c1 d0 d1
    have l0 := k0.lt
    have l1 := k1.lt
    have K2 := Lib.hid k2
    clear k0 k1 k2
    have hsg : decide (0 ≤ cmpI (dval xs) (dval ys)) = true := by
      have := HC.out
      rcases Int.lt_or_eq_of_le this with h | h
      · rw [cmpI_gt h]; rfl
      · rw [h, cmpI_eq]; rfl
    go_wp2_with fail
    refine name_world ?_
    intro W hW
    subst hW
    refine wp_region_up W.heap.size 7 [(true, 0), (true, 1), (true, 2), (true, 3), (true, 4), (true, 5), (false, 6)] (by kernel_rfl) (by kernel_rfl) (fun _ _ d _ _ h => by cases d <;> exact h) ?_
    have hb : Below W.heap.size W W.drew := (Below.refl _ _).drew
    have hsz0 : w.heap.size ≤ W.drew.heap.size := hb0.size
    iterate 6
      refine wpS_takeL rfl rfl ?_
      go_big_quiet_step (rfl)
      refine wpQuiet_nil ?_
    refine wpS_doL rfl ?_
    intro K hK
    go_wp2_with ((go_at_call 83; refine (less_F ao bo b b' cap cap' xs ys _ (HA.out.of (hb0.trans (hb.mono hb0.size))) (HB.out.of (hb0.trans (hb.mono hb0.size))) (by have := HL.out; omega) D.out.1 D.out.2 HLE.out HC.out).mono ?_; rintro e w2 ⟨⟨ao2, b2, cap2, ds2, rfl, hsl2, hdg2, hv2, hl2, hn⟩, hfs⟩; have HFS := Lib.hid hfs; clear hfs; have SL := Lib.hid hsl2; have DG := Lib.hid hdg2; have HV := Lib.hid hv2; have HL2 := Lib.hid hl2; clear hsl2 hdg2 hv2 hl2))
    replace hb := hb.trans (hn.mono hb.size)
    refine hK.out _ _ (up_iff.2 hb) ?_
    clear hK K
    clear hn
    refine wpS_nil ?_
    simp only [List.drop_succ_cons, List.drop_zero]
    have hb1 : Below w.heap.size w w2 := hb0.trans (hb.mono hb0.size)
    have k2 : Blk w2 (w.heap.size + 1 + 1) #[.bool false, .slice none 0 0] 109 := K2.out.of hb
    clear c0 c1 d0 d1 l0 l1 K2 hb hb0
    go_wp2_with fail
    refine (trim_F _ ao2 b2 cap2 ds2 _ SL.out DG.out xs.length (by rw [HL2.out]; exact Nat.le_refl _)).mono ?_
    rintro e w3 ⟨⟨v3, rfl, hbig, hn⟩, hft⟩
    rw [HV.out] at hbig
    have HBG := Lib.hid hbig
    have hvv := hbig.shape
    clear hbig
    obtain ⟨n3, a3, q3, c3, rfl⟩ := hvv
    have HFT := Lib.hid hft
    clear hft
    replace k2 : Blk w3 _ _ _ := k2.of hn
    have d0 := k2.cell 0
    have d1 := k2.cell 1
    have f0 := k2.free 0
    have f1 := k2.free 1
    simp only [List.getElem?_toArray, List.getElem?_cons_zero, List.getElem?_cons_succ] at d0 d1
    have hb2 := hb1.trans (hn.mono hb1.size)
    clear hn k2 hb1
    go_wp2
    simp [bodyPost, results, Try.results56, go_sem, d0, d1]
    refine ⟨⟨_, rfl, ?_, set2_below hb2 ?_ _ _⟩, FrR.of2 HFT.out HFS.out HBG.out hsz0⟩
    · have := HBG.out.set2 d0 (.bool n3) (.slice a3 q3 c3)
      exact this
    · omega
  · go_wp2_with fail
    refine calls_w ?_
    intro W hW
    have k0 : Blk W w.heap.size #[.bool true, .slice ao xs.length cap] 109 := by rw [hW]; exact ((Blk.new _ _ _).alloc _).alloc _
    have k1 : Blk W (w.heap.size + 1) #[.bool false, .slice bo ys.length cap'] 109 := by rw [hW]; exact (Blk.new1 _ _ _ _).alloc _
    have k2 : Blk W (w.heap.size + 1 + 1) #[.bool false, .slice none 0 0] 109 := by rw [hW]; exact Blk.new2 _ _ _ _ _
    have hb0 : Below w.heap.size w W := by rw [hW]; exact below_a3 _ _ _ _
    clear hW
    refine (sizes_any ao bo b b' cap cap' xs ys _ (HA.out.of hb0) (HB.out.of hb0) D.out.1 D.out.2 NN.out.1 NN.out.2).mono ?_
    rintro e w1 ⟨rfl, hn⟩
    replace k0 : Blk w1 _ _ _ := k0.of hn
    replace k1 : Blk w1 _ _ _ := k1.of hn
    replace k2 : Blk w1 _ _ _ := k2.of hn
    replace hb0 := hb0.trans (hn.mono hb0.size)
    clear hn
    have c0 := k0.cell 0
    have c1 := k0.cell 1
    have d0 := k1.cell 0
    have d1 := k1.cell 1
    simp only [List.getElem?_toArray, List.getElem?_cons_zero, List.getElem?_cons_succ] at c0 c1 d0 d1
    have l0 := k0.lt
    have l1 := k1.lt
    have K2 := Lib.hid k2
    clear k0 k1 k2
    have hsg : decide (0 ≤ cmpI (dval xs) (dval ys)) = true := by
      have := HC.out
      rcases Int.lt_or_eq_of_le this with h | h
      · rw [cmpI_gt h]; rfl
      · rw [h, cmpI_eq]; rfl
    go_wp2_with fail
    refine name_world ?_
    intro W hW
    subst hW
    refine wp_region_up W.heap.size 7 [(true, 0), (true, 1), (true, 2), (true, 3), (true, 4), (true, 5), (false, 6)] (by kernel_rfl) (by kernel_rfl) (fun _ _ d _ _ h => by cases d <;> exact h) ?_
    have hb : Below W.heap.size W W.drew := (Below.refl _ _).drew
    have hsz0 : w.heap.size ≤ W.drew.heap.size := hb0.size
    iterate 6
      refine wpS_takeL rfl rfl ?_
      go_big_quiet_step (rfl)
      refine wpQuiet_nil ?_
    refine wpS_doL rfl ?_
    intro K hK
    go_wp2_with ((go_at_call 83; refine (less_F ao bo b b' cap cap' xs ys _ (HA.out.of (hb0.trans (hb.mono hb0.size))) (HB.out.of (hb0.trans (hb.mono hb0.size))) (by have := HL.out; omega) D.out.1 D.out.2 HLE.out HC.out).mono ?_; rintro e w2 ⟨⟨ao2, b2, cap2, ds2, rfl, hsl2, hdg2, hv2, hl2, hn⟩, hfs⟩; have HFS := Lib.hid hfs; clear hfs; have SL := Lib.hid hsl2; have DG := Lib.hid hdg2; have HV := Lib.hid hv2; have HL2 := Lib.hid hl2; clear hsl2 hdg2 hv2 hl2))
    replace hb := hb.trans (hn.mono hb.size)
    refine hK.out _ _ (up_iff.2 hb) ?_
    clear hK K
    clear hn
    refine wpS_nil ?_
    simp only [List.drop_succ_cons, List.drop_zero]
    have hb1 : Below w.heap.size w w2 := hb0.trans (hb.mono hb0.size)
    have k2 : Blk w2 (w.heap.size + 1 + 1) #[.bool false, .slice none 0 0] 109 := K2.out.of hb
    clear c0 c1 d0 d1 l0 l1 K2 hb hb0
    go_wp2_with fail
    refine (trim_F _ ao2 b2 cap2 ds2 _ SL.out DG.out xs.length (by rw [HL2.out]; exact Nat.le_refl _)).mono ?_
    rintro e w3 ⟨⟨v3, rfl, hbig, hn⟩, hft⟩
    rw [HV.out] at hbig
    have HBG := Lib.hid hbig
    have hvv := hbig.shape
    clear hbig
    obtain ⟨n3, a3, q3, c3, rfl⟩ := hvv
    have HFT := Lib.hid hft
    clear hft
    replace k2 : Blk w3 _ _ _ := k2.of hn
    have d0 := k2.cell 0
    have d1 := k2.cell 1
    have f0 := k2.free 0
    have f1 := k2.free 1
    simp only [List.getElem?_toArray, List.getElem?_cons_zero, List.getElem?_cons_succ] at d0 d1
    have hb2 := hb1.trans (hn.mono hb1.size)
    clear hn k2 hb1
    go_wp2
    simp [bodyPost, results, Try.results56, go_sem, d0, d1]
    refine ⟨⟨_, rfl, ?_, set2_below hb2 ?_ _ _⟩, FrR.of2 HFT.out HFS.out HBG.out hsz0⟩
    · have := HBG.out.set2 d0 (.bool n3) (.slice a3 q3 c3)
      exact this
    · omega
set_option maxRecDepth 100000 in
set_option maxHeartbeats 600000 in
theorem bigAdd_ltF (neg : Bool) (ao bo : Option Addr) (b b' cap cap' : Nat) (xs ys : List Int) (w : World) (ha : Sl w ao b cap xs) (hb : Sl w bo b' cap' ys) (da : DigOk xs) (db : DigOk ys) (na : Norm xs) (nb : Norm ys) (hcmp : dval xs < dval ys)
    (hl1 : xs.length < 268435456) (hl2 : ys.length < 268435456) :
    Calls Try.prog 56 #[.agg #[.bool neg, .slice ao xs.length cap], .agg #[.bool (!neg), .slice bo ys.length cap']] w
      (fun e w2 => GivesBig w (bif !neg then -(dval ys - dval xs) else dval ys - dval xs) ys.length e w2 ∧ FrR w.heap.size e) := by
  have HC := Lib.hid hcmp
  have NN := Lib.hid (And.intro na nb)
  have HA := Lib.hid ha
  have HB := Lib.hid hb
  have D := Lib.hid (And.intro da db)
  have HL := Lib.hid (And.intro hl1 hl2)
  have hle : xs.length ≤ ys.length := by
    rcases Nat.lt_or_ge ys.length xs.length with h | h
    · have := len_lt db da na h; omega
    · exact h
  have HLE := Lib.hid hle
  clear hle
  clear ha hb da db hl1 hl2 hcmp na nb
  go_enter Try.func56, Try.ntmps56
  cases neg
  · go_wp2_with fail
    refine calls_w ?_
    intro W hW
    have k0 : Blk W w.heap.size #[.bool false, .slice ao xs.length cap] 109 := by rw [hW]; exact ((Blk.new _ _ _).alloc _).alloc _
    have k1 : Blk W (w.heap.size + 1) #[.bool true, .slice bo ys.length cap'] 109 := by rw [hW]; exact (Blk.new1 _ _ _ _).alloc _
    have k2 : Blk W (w.heap.size + 1 + 1) #[.bool false, .slice none 0 0] 109 := by rw [hW]; exact Blk.new2 _ _ _ _ _
    have hb0 : Below w.heap.size w W := by rw [hW]; exact below_a3 _ _ _ _
    clear hW
    refine (sizes_any ao bo b b' cap cap' xs ys _ (HA.out.of hb0) (HB.out.of hb0) D.out.1 D.out.2 NN.out.1 NN.out.2).mono ?_
    rintro e w1 ⟨rfl, hn⟩
    replace k0 : Blk w1 _ _ _ := k0.of hn
    replace k1 : Blk w1 _ _ _ := k1.of hn
    replace k2 : Blk w1 _ _ _ := k2.of hn
    replace hb0 := hb0.trans (hn.mono hb0.size)
    clear hn
    have c0 := k0.cell 0
    have c1 := k0.cell 1
    have d0 := k1.cell 0
    have d1 := k1.cell 1
    simp only [List.getElem?_toArray, List.getElem?_cons_zero, List.getElem?_cons_succ] at c0 c1 d0 d1
    have l0 := k0.lt
    have l1 := k1.lt
    have K2 := Lib.hid k2
    clear k0 k1 k2
    have hsg : decide (0 ≤ cmpI (dval xs) (dval ys)) = false := by
      have := HC.out
      rw [cmpI_lt this]; rfl
    go_wp2_with fail
    refine name_world ?_
    intro W hW
    subst hW
    refine wp_region_up W.heap.size 7 [(true, 0), (true, 1), (true, 2), (true, 3), (true, 4), (true, 5), (false, 6)] (by kernel_rfl) (by kernel_rfl) (fun _ _ d _ _ h => by cases d <;> exact h) ?_
    have hb : Below W.heap.size W W.drew := (Below.refl _ _).drew
    have hsz0 : w.heap.size ≤ W.drew.heap.size := hb0.size
    iterate 6
      refine wpS_takeL rfl rfl ?_
      go_big_quiet_step (rfl)
      refine wpQuiet_nil ?_
    refine wpS_doL rfl ?_
    intro K hK
    go_wp2_with ((go_at_call 83; refine (less_F bo ao b' b cap' cap ys xs _ (HB.out.of (hb0.trans (hb.mono hb0.size))) (HA.out.of (hb0.trans (hb.mono hb0.size))) (by have := HL.out; omega) D.out.2 D.out.1 HLE.out (Int.le_of_lt HC.out)).mono ?_; rintro e w2 ⟨⟨ao2, b2, cap2, ds2, rfl, hsl2, hdg2, hv2, hl2, hn⟩, hfs⟩; have HFS := Lib.hid hfs; clear hfs; have SL := Lib.hid hsl2; have DG := Lib.hid hdg2; have HV := Lib.hid hv2; have HL2 := Lib.hid hl2; clear hsl2 hdg2 hv2 hl2))
    replace hb := hb.trans (hn.mono hb.size)
    refine hK.out _ _ (up_iff.2 hb) ?_
    clear hK K
    clear hn
    refine wpS_nil ?_
    simp only [List.drop_succ_cons, List.drop_zero]
    have hb1 : Below w.heap.size w w2 := hb0.trans (hb.mono hb0.size)
    have k2 : Blk w2 (w.heap.size + 1 + 1) #[.bool false, .slice none 0 0] 109 := K2.out.of hb
    clear c0 c1 d0 d1 l0 l1 K2 hb hb0
    go_wp2_with fail
    refine (trim_F _ ao2 b2 cap2 ds2 _ SL.out DG.out ys.length (by rw [HL2.out]; exact Nat.le_refl _)).mono ?_
    rintro e w3 ⟨⟨v3, rfl, hbig, hn⟩, hft⟩
    rw [HV.out] at hbig
    have HBG := Lib.hid hbig
    have hvv := hbig.shape
    clear hbig
    obtain ⟨n3, a3, q3, c3, rfl⟩ := hvv
    have HFT := Lib.hid hft
    clear hft
    replace k2 : Blk w3 _ _ _ := k2.of hn
    have d0 := k2.cell 0
    have d1 := k2.cell 1
    have f0 := k2.free 0
    have f1 := k2.free 1
    simp only [List.getElem?_toArray, List.getElem?_cons_zero, List.getElem?_cons_succ] at d0 d1
    have hb2 := hb1.trans (hn.mono hb1.size)
    clear hn k2 hb1
    go_wp2
    simp [bodyPost, results, Try.results56, go_sem, d0, d1]
    refine ⟨⟨_, rfl, ?_, set2_below hb2 ?_ _ _⟩, FrR.of2 HFT.out HFS.out HBG.out hsz0⟩
    · have := HBG.out.set2 d0 (.bool n3) (.slice a3 q3 c3)
      exact this
    · omega
  · go_wp2_with fail
    refine calls_w ?_
    intro W hW
    have k0 : Blk W w.heap.size #[.bool true, .slice ao xs.length cap] 109 := by rw [hW]; exact ((Blk.new _ _ _).alloc _).alloc _
    have k1 : Blk W (w.heap.size + 1) #[.bool false, .slice bo ys.length cap'] 109 := by rw [hW]; exact (Blk.new1 _ _ _ _).alloc _
    have k2 : Blk W (w.heap.size + 1 + 1) #[.bool false, .slice none 0 0] 109 := by rw [hW]; exact Blk.new2 _ _ _ _ _
    have hb0 : Below w.heap.size w W := by rw [hW]; exact below_a3 _ _ _ _
    clear hW
    refine (sizes_any ao bo b b' cap cap' xs ys _ (HA.out.of hb0) (HB.out.of hb0) D.out.1 D.out.2 NN.out.1 NN.out.2).mono ?_
    rintro e w1 ⟨rfl, hn⟩
    replace k0 : Blk w1 _ _ _ := k0.of hn
    replace k1 : Blk w1 _ _ _ := k1.of hn
    replace k2 : Blk w1 _ _ _ := k2.of hn
    replace hb0 := hb0.trans (hn.mono hb0.size)
    clear hn
    have c0 := k0.cell 0
    have c1 := k0.cell 1
    have d0 := k1.cell 0
    have d1 := k1.cell 1
    simp only [List.getElem?_toArray, List.getElem?_cons_zero, List.getElem?_cons_succ] at c0 c1 d0 d1
    have l0 := k0.lt
    have l1 := k1.lt
    have K2 := Lib.hid k2
    clear k0 k1 k2
    have hsg : decide (0 ≤ cmpI (dval xs) (dval ys)) = false := by
      have := HC.out
      rw [cmpI_lt this]; rfl
    go_wp2_with fail
    refine name_world ?_
    intro W hW
    subst hW
    refine wp_region_up W.heap.size 7 [(true, 0), (true, 1), (true, 2), (true, 3), (true, 4), (true, 5), (false, 6)] (by kernel_rfl) (by kernel_rfl) (fun _ _ d _ _ h => by cases d <;> exact h) ?_
    have hb : Below W.heap.size W W.drew := (Below.refl _ _).drew
    have hsz0 : w.heap.size ≤ W.drew.heap.size := hb0.size
    iterate 6
      refine wpS_takeL rfl rfl ?_
      go_big_quiet_step (rfl)
      refine wpQuiet_nil ?_
    refine wpS_doL rfl ?_
    intro K hK
    go_wp2_with ((go_at_call 83; refine (less_F bo ao b' b cap' cap ys xs _ (HB.out.of (hb0.trans (hb.mono hb0.size))) (HA.out.of (hb0.trans (hb.mono hb0.size))) (by have := HL.out; omega) D.out.2 D.out.1 HLE.out (Int.le_of_lt HC.out)).mono ?_; rintro e w2 ⟨⟨ao2, b2, cap2, ds2, rfl, hsl2, hdg2, hv2, hl2, hn⟩, hfs⟩; have HFS := Lib.hid hfs; clear hfs; have SL := Lib.hid hsl2; have DG := Lib.hid hdg2; have HV := Lib.hid hv2; have HL2 := Lib.hid hl2; clear hsl2 hdg2 hv2 hl2))
    replace hb := hb.trans (hn.mono hb.size)
    refine hK.out _ _ (up_iff.2 hb) ?_
    clear hK K
    clear hn
    refine wpS_nil ?_
    simp only [List.drop_succ_cons, List.drop_zero]
    have hb1 : Below w.heap.size w w2 := hb0.trans (hb.mono hb0.size)
    have k2 : Blk w2 (w.heap.size + 1 + 1) #[.bool false, .slice none 0 0] 109 := K2.out.of hb
    clear c0 c1 d0 d1 l0 l1 K2 hb hb0
    go_wp2_with fail
    refine (trim_F _ ao2 b2 cap2 ds2 _ SL.out DG.out ys.length (by rw [HL2.out]; exact Nat.le_refl _)).mono ?_
    rintro e w3 ⟨⟨v3, rfl, hbig, hn⟩, hft⟩
    rw [HV.out] at hbig
    have HBG := Lib.hid hbig
    have hvv := hbig.shape
    clear hbig
    obtain ⟨n3, a3, q3, c3, rfl⟩ := hvv
    have HFT := Lib.hid hft
    clear hft
    replace k2 : Blk w3 _ _ _ := k2.of hn
    have d0 := k2.cell 0
    have d1 := k2.cell 1
    have f0 := k2.free 0
    have f1 := k2.free 1
    simp only [List.getElem?_toArray, List.getElem?_cons_zero, List.getElem?_cons_succ] at d0 d1
    have hb2 := hb1.trans (hn.mono hb1.size)
    clear hn k2 hb1
    go_wp2
    simp [bodyPost, results, Try.results56, go_sem, d0, d1]
    refine ⟨⟨_, rfl, ?_, set2_below hb2 ?_ _ _⟩, FrR.of2 HFT.out HFS.out HBG.out hsz0⟩
    · have := HBG.out.set2 d0 (.bool n3) (.slice a3 q3 c3)
      exact this
    · omega
theorem bigAdd_F (v v' : Value) (n m : Int) (L : Nat) (w : World) (h : Big w v n L) (h' : Big w v' m L) (hL : L < 268435456) :
    Calls Try.prog 56 #[v, v'] w (fun e w2 => GivesBig w (n + m) (L + 1) e w2 ∧ FrR w.heap.size e) := by
  obtain ⟨neg, ao, b, cap, ds, rfl, hs, hd, hn, hz, hv, hl⟩ := h
  obtain ⟨neg', ao', b', cap', ds', rfl, hs', hd', hn', hz', hv', hl'⟩ := h'
  by_cases hq : neg' = neg
  · subst hq
    refine (bigAdd_sameF neg' ao ao' b b' cap cap' ds ds' w hs hs' hd hd' (by omega) (by omega)).mono ?_
    intro e w2 hg
    have hx : n + m = (bif neg' then -(dval ds + dval ds') else dval ds + dval ds') := by
      rw [hv, hv']; cases neg' <;> simp <;> omega
    rw [hx]
    exact ⟨hg.1.mono (by omega), hg.2⟩
  · have hq' : neg' = !neg := by cases neg <;> cases neg' <;> simp_all
    subst hq'
    by_cases hc : dval ds' ≤ dval ds
    · refine (bigAdd_geF neg ao ao' b b' cap cap' ds ds' w hs hs' hd hd' hn hn' hc (by omega) (by omega)).mono ?_
      intro e w2 hg
      have hx : n + m = (bif neg then -(dval ds - dval ds') else dval ds - dval ds') := by
        rw [hv, hv']; cases neg <;> simp <;> omega
      rw [hx]
      exact ⟨hg.1.mono (by omega), hg.2⟩
    · refine (bigAdd_ltF neg ao ao' b b' cap cap' ds ds' w hs hs' hd hd' hn hn' (by omega) (by omega) (by omega)).mono ?_
      intro e w2 hg
      have hx : n + m = (bif !neg then -(dval ds' - dval ds) else dval ds' - dval ds) := by
        rw [hv, hv']; cases neg <;> simp <;> omega
      rw [hx]
      exact ⟨hg.1.mono (by omega), hg.2⟩
end Go.Proofs.Ytdlpfiiakmhnlaa

namespace Go.Proofs.Ytdlpfiiakmhnlaa
open Go.RowKit

/-- is a triangle ahead of another? -/
def ahd3 (a b c d e f : Int) : Bool := if a ≠ d then decide (a < d) else if b ≠ e then decide (b < e) else if c ≠ f then decide (c < f) else false
set_option maxRecDepth 100000 in
set_option maxHeartbeats 1000000 in
theorem ahead_is (a b c d e f : Int) (w : World) : Calls Try.prog 61 #[tI a b c, tI d e f] w fun r w' => r = .returned (.bool (ahd3 a b c d e f)) ∧ Below w.heap.size w w' := by
  go_enter Try.func61, Try.ntmps61
  go_wp2_with fail
  refine name_world ?_
  intro V hV
  have hb : Below w.heap.size w V := by rw [hV]; exact below_a2 _ _ _
  have ka : Hid (Blk V w.heap.size #[.int .i64 a, .int .i64 b, .int .i64 c] 35) := by rw [hV]; exact Lib.hid ((Blk.new w _ _).of (below_a1 _ _))
  have kb : Hid (Blk V (w.heap.size + 1) #[.int .i64 d, .int .i64 e, .int .i64 f] 35) := by rw [hV]; have h := Blk.new (w.alloc (.cells #[.int .i64 a, .int .i64 b, .int .i64 c] 35)) #[.int .i64 d, .int .i64 e, .int .i64 f] 35; exact Lib.hid (by simpa using h)
  obtain ⟨pa, epa⟩ : ∃ b, w.heap.size = b := ⟨_, rfl⟩
  obtain ⟨pb, epb⟩ : ∃ b, w.heap.size + 1 = b := ⟨_, rfl⟩
  rw [epa] at ka
  rw [epb] at kb
  rw [epb, epa]
  have HB := Lib.hid hb
  clear hV hb epa epb
  go_loopg [6] 3 (fun gk s6 wr => ∃ k : Nat, s6 = .int .i64 (k : Nat) ∧ k ≤ 3 ∧ 3 - k ≤ gk ∧ Hid (Below w.heap.size w wr) ∧ Hid (Below V.heap.size V wr) ∧ Hid ((0 < k → a = d) ∧ (1 < k → b = e) ∧ (2 < k → c = f)))
  case atStart => exact ⟨0, rfl, by omega, by omega, HB, Lib.hid (Below.refl _ _), Lib.hid ⟨fun h => by omega, fun h => by omega, fun h => by omega⟩⟩
  case round =>
    clear HB
    obtain ⟨k, rfl, hk, hgk, HW, HV, HQ⟩ := hrel
    have k1 := ka.out.of HV.out
    have k2 := kb.out.of HV.out
    have l1 := k1.lt
    have l2 := k2.lt
    have a0 := k1.cell 0
    have a1 := k1.cell 1
    have a2 := k1.cell 2
    have b0 := k2.cell 0
    have b1 := k2.cell 1
    have b2 := k2.cell 2
    simp only [List.getElem?_toArray, List.getElem?_cons_zero, List.getElem?_cons_succ] at a0 a1 a2 b0 b1 b2
    clear k1 k2
    rcases (show k = 0 ∨ k = 1 ∨ k = 2 ∨ k = 3 by omega) with rfl | rfl | rfl | rfl
    · by_cases hxy : a = d
      · have HQ2 : Hid ((0 < 1 → a = d) ∧ (1 < 1 → b = e) ∧ (2 < 1 → c = f)) := by
          have h := HQ.out
          exact Lib.hid ⟨fun _ => by first | exact hxy | exact h.1 (by omega), fun _ => by first | exact hxy | exact h.2.1 (by omega) | omega, fun _ => by first | exact hxy | exact h.2.2 (by omega) | omega⟩
        clear HQ
        go_wp2_with fail
        refine wp_region_up wr.heap.size 6 [(true, 0), (true, 1), (true, 2), (true, 3), (true, 4), (true, 5)] (by kernel_rfl) (by kernel_rfl) (fun _ _ d _ _ h => by cases d <;> exact h) ?_
        have hb : Below wr.heap.size wr wr.drew := (Below.refl _ _).drew
        iterate 6
          refine wpS_takeL rfl rfl ?_
          go_big_quiet_step (rfl)
          refine wpQuiet_nil ?_
        refine wpS_nil ?_
        simp only [List.drop_succ_cons, List.drop_zero]
        have hA := Lib.hid (HW.out.drew)
        have hB := Lib.hid (HV.out.drew)
        go_wp2_with fail
        go_roundg (3 - 1)
        case measure => omega
        case rel => exact ⟨1, by norm_cast, by omega, by omega, hA, hB, HQ2⟩
      · have hv : ahd3 a b c d e f = decide (a < d) := by
          have h := HQ.out
          unfold ahd3
          rw [if_pos hxy]
        have HVV := Lib.hid hv
        clear hv HQ
        go_wp2_with fail
        refine wp_region_up wr.heap.size 6 [(true, 0), (true, 1), (true, 2), (true, 3), (true, 4), (true, 5)] (by kernel_rfl) (by kernel_rfl) (fun _ _ d _ _ h => by cases d <;> exact h) ?_
        have hb : Below wr.heap.size wr wr.drew := (Below.refl _ _).drew
        iterate 6
          refine wpS_takeL rfl rfl ?_
          go_big_quiet_step (rfl)
          refine wpQuiet_nil ?_
        refine wpS_nil ?_
        simp only [List.drop_succ_cons, List.drop_zero]
        obtain ⟨W2, hW2⟩ : ∃ W, wr.drew = W := ⟨_, rfl⟩
        have g1 : Below wr.heap.size wr W2 := by rw [← hW2]; exact (Below.refl _ _).drew
        have HW2 := Lib.hid (show Below w.heap.size w W2 by rw [← hW2]; exact HW.out.drew)
        have m1 := Nat.lt_of_lt_of_le l1 g1.size
        have m2 := Nat.lt_of_lt_of_le l2 g1.size
        have e0 := (g1.cell (p := ⟨pa, 0, none⟩) l1).trans a0
        have e1 := (g1.cell (p := ⟨pa, 1, none⟩) l1).trans a1
        have e2 := (g1.cell (p := ⟨pa, 2, none⟩) l1).trans a2
        have f0 := (g1.cell (p := ⟨pb, 0, none⟩) l2).trans b0
        have f1 := (g1.cell (p := ⟨pb, 1, none⟩) l2).trans b1
        have f2 := (g1.cell (p := ⟨pb, 2, none⟩) l2).trans b2
        rw [hW2]
        clear a0 a1 a2 b0 b1 b2 l1 l2 hW2 g1 HW HV ka kb
        go_wp2_with fail
        refine wp_region_up W2.heap.size 6 [(true, 0), (true, 1), (true, 2), (true, 3), (true, 4), (true, 5)] (by kernel_rfl) (by kernel_rfl) (fun _ _ d _ _ h => by cases d <;> exact h) ?_
        have hb : Below W2.heap.size W2 W2.drew := (Below.refl _ _).drew
        iterate 6
          refine wpS_takeL rfl rfl ?_
          go_big_quiet_step (rfl)
          refine wpQuiet_nil ?_
        refine wpS_nil ?_
        simp only [List.drop_succ_cons, List.drop_zero]
        have hA := HW2.out.drew
        go_wp2_with fail
        go_ret
        exact ⟨by rw [HVV.out]; rfl, hA⟩
    · by_cases hxy : b = e
      · have HQ2 : Hid ((0 < 2 → a = d) ∧ (1 < 2 → b = e) ∧ (2 < 2 → c = f)) := by
          have h := HQ.out
          exact Lib.hid ⟨fun _ => by first | exact hxy | exact h.1 (by omega), fun _ => by first | exact hxy | exact h.2.1 (by omega) | omega, fun _ => by first | exact hxy | exact h.2.2 (by omega) | omega⟩
        clear HQ
        go_wp2_with fail
        refine wp_region_up wr.heap.size 6 [(true, 0), (true, 1), (true, 2), (true, 3), (true, 4), (true, 5)] (by kernel_rfl) (by kernel_rfl) (fun _ _ d _ _ h => by cases d <;> exact h) ?_
        have hb : Below wr.heap.size wr wr.drew := (Below.refl _ _).drew
        iterate 6
          refine wpS_takeL rfl rfl ?_
          go_big_quiet_step (rfl)
          refine wpQuiet_nil ?_
        refine wpS_nil ?_
        simp only [List.drop_succ_cons, List.drop_zero]
        have hA := Lib.hid (HW.out.drew)
        have hB := Lib.hid (HV.out.drew)
        go_wp2_with fail
        go_roundg (3 - 2)
        case measure => omega
        case rel => exact ⟨2, by norm_cast, by omega, by omega, hA, hB, HQ2⟩
      · have hv : ahd3 a b c d e f = decide (b < e) := by
          have h := HQ.out
          unfold ahd3
          rw [if_neg (fun h2 => h2 (h.1 (by omega))), if_pos hxy]
        have HVV := Lib.hid hv
        clear hv HQ
        go_wp2_with fail
        refine wp_region_up wr.heap.size 6 [(true, 0), (true, 1), (true, 2), (true, 3), (true, 4), (true, 5)] (by kernel_rfl) (by kernel_rfl) (fun _ _ d _ _ h => by cases d <;> exact h) ?_
        have hb : Below wr.heap.size wr wr.drew := (Below.refl _ _).drew
        iterate 6
          refine wpS_takeL rfl rfl ?_
          go_big_quiet_step (rfl)
          refine wpQuiet_nil ?_
        refine wpS_nil ?_
        simp only [List.drop_succ_cons, List.drop_zero]
        obtain ⟨W2, hW2⟩ : ∃ W, wr.drew = W := ⟨_, rfl⟩
        have g1 : Below wr.heap.size wr W2 := by rw [← hW2]; exact (Below.refl _ _).drew
        have HW2 := Lib.hid (show Below w.heap.size w W2 by rw [← hW2]; exact HW.out.drew)
        have m1 := Nat.lt_of_lt_of_le l1 g1.size
        have m2 := Nat.lt_of_lt_of_le l2 g1.size
        have e0 := (g1.cell (p := ⟨pa, 0, none⟩) l1).trans a0
        have e1 := (g1.cell (p := ⟨pa, 1, none⟩) l1).trans a1
        have e2 := (g1.cell (p := ⟨pa, 2, none⟩) l1).trans a2
        have f0 := (g1.cell (p := ⟨pb, 0, none⟩) l2).trans b0
        have f1 := (g1.cell (p := ⟨pb, 1, none⟩) l2).trans b1
        have f2 := (g1.cell (p := ⟨pb, 2, none⟩) l2).trans b2
        rw [hW2]
        clear a0 a1 a2 b0 b1 b2 l1 l2 hW2 g1 HW HV ka kb
        go_wp2_with fail
        refine wp_region_up W2.heap.size 6 [(true, 0), (true, 1), (true, 2), (true, 3), (true, 4), (true, 5)] (by kernel_rfl) (by kernel_rfl) (fun _ _ d _ _ h => by cases d <;> exact h) ?_
        have hb : Below W2.heap.size W2 W2.drew := (Below.refl _ _).drew
        iterate 6
          refine wpS_takeL rfl rfl ?_
          go_big_quiet_step (rfl)
          refine wpQuiet_nil ?_
        refine wpS_nil ?_
        simp only [List.drop_succ_cons, List.drop_zero]
        have hA := HW2.out.drew
        go_wp2_with fail
        go_ret
        exact ⟨by rw [HVV.out]; rfl, hA⟩
    · by_cases hxy : c = f
      · have HQ2 : Hid ((0 < 3 → a = d) ∧ (1 < 3 → b = e) ∧ (2 < 3 → c = f)) := by
          have h := HQ.out
          exact Lib.hid ⟨fun _ => by first | exact hxy | exact h.1 (by omega), fun _ => by first | exact hxy | exact h.2.1 (by omega) | omega, fun _ => by first | exact hxy | exact h.2.2 (by omega) | omega⟩
        clear HQ
        go_wp2_with fail
        refine wp_region_up wr.heap.size 6 [(true, 0), (true, 1), (true, 2), (true, 3), (true, 4), (true, 5)] (by kernel_rfl) (by kernel_rfl) (fun _ _ d _ _ h => by cases d <;> exact h) ?_
        have hb : Below wr.heap.size wr wr.drew := (Below.refl _ _).drew
        iterate 6
          refine wpS_takeL rfl rfl ?_
          go_big_quiet_step (rfl)
          refine wpQuiet_nil ?_
        refine wpS_nil ?_
        simp only [List.drop_succ_cons, List.drop_zero]
        have hA := Lib.hid (HW.out.drew)
        have hB := Lib.hid (HV.out.drew)
        go_wp2_with fail
        go_roundg (3 - 3)
        case measure => omega
        case rel => exact ⟨3, by norm_cast, by omega, by omega, hA, hB, HQ2⟩
      · have hv : ahd3 a b c d e f = decide (c < f) := by
          have h := HQ.out
          unfold ahd3
          rw [if_neg (fun h2 => h2 (h.1 (by omega))), if_neg (fun h2 => h2 (h.2.1 (by omega))), if_pos hxy]
        have HVV := Lib.hid hv
        clear hv HQ
        go_wp2_with fail
        refine wp_region_up wr.heap.size 6 [(true, 0), (true, 1), (true, 2), (true, 3), (true, 4), (true, 5)] (by kernel_rfl) (by kernel_rfl) (fun _ _ d _ _ h => by cases d <;> exact h) ?_
        have hb : Below wr.heap.size wr wr.drew := (Below.refl _ _).drew
        iterate 6
          refine wpS_takeL rfl rfl ?_
          go_big_quiet_step (rfl)
          refine wpQuiet_nil ?_
        refine wpS_nil ?_
        simp only [List.drop_succ_cons, List.drop_zero]
        obtain ⟨W2, hW2⟩ : ∃ W, wr.drew = W := ⟨_, rfl⟩
        have g1 : Below wr.heap.size wr W2 := by rw [← hW2]; exact (Below.refl _ _).drew
        have HW2 := Lib.hid (show Below w.heap.size w W2 by rw [← hW2]; exact HW.out.drew)
        have m1 := Nat.lt_of_lt_of_le l1 g1.size
        have m2 := Nat.lt_of_lt_of_le l2 g1.size
        have e0 := (g1.cell (p := ⟨pa, 0, none⟩) l1).trans a0
        have e1 := (g1.cell (p := ⟨pa, 1, none⟩) l1).trans a1
        have e2 := (g1.cell (p := ⟨pa, 2, none⟩) l1).trans a2
        have f0 := (g1.cell (p := ⟨pb, 0, none⟩) l2).trans b0
        have f1 := (g1.cell (p := ⟨pb, 1, none⟩) l2).trans b1
        have f2 := (g1.cell (p := ⟨pb, 2, none⟩) l2).trans b2
        rw [hW2]
        clear a0 a1 a2 b0 b1 b2 l1 l2 hW2 g1 HW HV ka kb
        go_wp2_with fail
        refine wp_region_up W2.heap.size 6 [(true, 0), (true, 1), (true, 2), (true, 3), (true, 4), (true, 5)] (by kernel_rfl) (by kernel_rfl) (fun _ _ d _ _ h => by cases d <;> exact h) ?_
        have hb : Below W2.heap.size W2 W2.drew := (Below.refl _ _).drew
        iterate 6
          refine wpS_takeL rfl rfl ?_
          go_big_quiet_step (rfl)
          refine wpQuiet_nil ?_
        refine wpS_nil ?_
        simp only [List.drop_succ_cons, List.drop_zero]
        have hA := HW2.out.drew
        go_wp2_with fail
        go_ret
        exact ⟨by rw [HVV.out]; rfl, hA⟩
    · have hv : ahd3 a b c d e f = false := by
        have h := HQ.out
        unfold ahd3
        rw [if_neg (fun h2 => h2 (h.1 (by omega))), if_neg (fun h2 => h2 (h.2.1 (by omega))), if_neg (fun h2 => h2 (h.2.2 (by omega)))]
      have HVV := Lib.hid hv
      clear hv HQ
      go_wp2
      go_ret
      exact ⟨by rw [HVV.out]; rfl, HW.out⟩
end Go.Proofs.Ytdlpfiiakmhnlaa

namespace Go.Proofs.Ytdlpfiiakmhnlaa
open Go.RowKit

def nI (L : List Nat) : List Value := L.map fun x => .int .i64 (x : Nat)
theorem nI_len (L : List Nat) : (nI L).length = L.length := by unfold nI; simp
theorem nI_one (L : List Nat) : ∀ u ∈ nI L, u.oneCell' = true := by
  intro u hu
  unfold nI at hu
  obtain ⟨x, _, rfl⟩ := List.mem_map.1 hu
  rfl
theorem Ns.src {w : World} {a : Addr} {cap : Nat} {L : List Nat} (h : Ns w (some a) cap L) (j : Nat) (u : Value) (hj : (nI L)[j]? = some u) : w.cell? (a.add j) = some u := by
  have hjl : j < L.length := by rw [← nI_len]; exact (List.getElem?_eq_some_iff.1 hj).1
  obtain ⟨g, o, e, _, hc⟩ := h.ptr (by omega)
  injection e with e
  subst e
  have e2 : (⟨g, o, none⟩ : Addr).add j = ⟨g, o + j, none⟩ := by unfold Addr.add; split <;> simp_all
  rw [e2]
  unfold nI at hj
  rw [List.getElem?_map, Option.map_eq_some_iff] at hj
  obtain ⟨x, hx, rfl⟩ := hj
  exact hc j x hx
set_option maxRecDepth 100000 in
set_option maxHeartbeats 1000000 in
theorem CloneI_is (ao : Option Addr) (cap : Nat) (L : List Nat) (w : World) (h : Ns w ao cap L) (hn : L.length ≤ 1000000) :
    Calls Try.prog 98 #[.slice ao L.length cap] w fun e w' => ∃ v, e = .returned v ∧ NL w' w.heap.size v L ∧ Below w.heap.size w w' := by
  have hcl := h.capl
  have hcb := h.capb
  obtain ⟨i0, hi, hz0, hz1, hz2⟩ := info_parts info_int
  have HP := Lib.hid h
  clear h
  cases ao with
  | none =>
    have heq : ∀ n w, Sem.run Try.prog (binOp BinOp.eql 29 (.slice none n cap) (.slice none 0 0)) w = .ok (.bool true) w := fun n w => by kernel_rfl
    have hn0 : L = [] := by
      rcases Nat.eq_zero_or_pos L.length with h0 | h0
      · exact List.eq_nil_of_length_eq_zero h0
      · obtain ⟨g, o, e, _⟩ := HP.out.ptr h0; cases e
    subst hn0
    go_enter Try.func98, Try.ntmps98
    go_wp2
    go_ret
    exact ⟨_, rfl, NL.none, Below.refl _ _⟩
  | some a =>
    have heq : ∀ w, Sem.run Try.prog (binOp BinOp.eql 29 (.slice (some a) L.length cap) (.slice none 0 0)) w = .ok (.bool false) w := fun w => by kernel_rfl
    go_enter Try.func98, Try.ntmps98
    go_wp2_with (at_builtin; refine wpList_append_lies _ rfl _ _ 29 rfl w.heap.size 3 i0 (.int .i64 0) 1 8 Try.underlying29 hi hz0 hz1 hz2 rfl (by decide) (.slice (some ⟨w.heap.size, 0, none⟩) 0 0) 0 [] rfl ⟨rfl, .inr ⟨w.heap.size, 0, #[], rfl, Nat.le_refl _, heap_alloc_new w _, Nat.le_refl _, by decide, rfl, rfl⟩⟩ a L.length cap (nI L) rfl (by rw [nI_len]; omega) (Ns.src (HP.out.of (below_a1 _ _))) (nI_one L) (by unfold maxLen; omega) (by omega) (by simp) ?_)
    intro v' w' own gr _
    have HO : Hid (NL w' w.heap.size v' L) := by
      refine Lib.hid ?_
      unfold NL
      exact own
    have hb : Below w.heap.size w w' := (below_a1 w _).trans ((Below.refl _ _).grown gr (by simp) (fun k hk => by cases hk; exact Nat.le_refl _))
    clear own gr
    go_wp2
    go_ret
    exact ⟨_, rfl, HO.out, hb⟩
end Go.Proofs.Ytdlpfiiakmhnlaa

namespace Go.Proofs.Ytdlpfiiakmhnlaa
open Go.RowKit
attribute [local go_sem] undef

theorem CmpI_is (x y r : Int) (hr : cmpI x y = r) (w : World) : Calls Try.prog 66 #[.int .i64 x, .int .i64 y] w fun e w' => e = .returned (.int .i64 r) ∧ Below w.heap.size w w' := hr ▸ Compare_any x y w
/-- numbers to be read, in a block below B -/
structure Nb (B : Nat) (w : World) (g o cap : Nat) (L : List Nat) : Prop where
  lt : g < w.heap.size
  lo : g < B
  cell : ∀ j x, L[j]? = some x → w.cell? ⟨g, o + j, none⟩ = some (.int .i64 (x : Nat))
  capl : L.length ≤ cap
  capb : cap ≤ 9223372036854775807
theorem Nb.of {B : Nat} {w w' : World} {g o cap : Nat} {L : List Nat} (h : Nb B w g o cap L) (hb : Below B w w') : Nb B w' g o cap L :=
  ⟨Nat.lt_of_lt_of_le h.lt hb.size, h.lo, fun j x hx => (hb.cell (p := ⟨g, o + j, none⟩) h.lo).trans (h.cell j x hx), h.capl, h.capb⟩
theorem Nb.tail {B : Nat} {w : World} {g o cap o' : Nat} {x : Nat} {L : List Nat} (h : Nb B w g o cap (x :: L)) (ho : o' = o + 1 ∨ L = []) : Nb B w g o' (cap - 1) L := by
  have hc := h.capl
  have hcb := h.capb
  simp only [List.length_cons] at hc
  refine ⟨h.lt, h.lo, fun j y hy => ?_, by omega, by omega⟩
  rcases ho with rfl | rfl
  · have := h.cell (j + 1) y (by simpa using hy)
    rw [show o + 1 + j = o + (j + 1) by omega]; exact this
  · simp at hy
theorem Nb.src {B : Nat} {w : World} {g o cap : Nat} {L : List Nat} (h : Nb B w g o cap L) (j : Nat) (u : Value) (hj : (nI L)[j]? = some u) : w.cell? ((⟨g, o, none⟩ : Addr).add j) = some u := by
  have e2 : (⟨g, o, none⟩ : Addr).add j = ⟨g, o + j, none⟩ := by unfold Addr.add; split <;> simp_all
  rw [e2]
  unfold nI at hj
  rw [List.getElem?_map, Option.map_eq_some_iff] at hj
  obtain ⟨x, hx, rfl⟩ := hj
  exact h.cell j x hx
theorem make_ints (k : Nat) (hk : k ≤ 1000000) : ∃ MC : Array Value, (∀ w, Sem.run Try.prog (Instr.makeSlice 29 (.int .i64 0) (.int .i64 (k : Nat))) w = .ok (.slice (some ⟨w.heap.size, 0, none⟩) 0 k) (w.alloc (.cells MC 3))) ∧ MC.size = k := by
  obtain ⟨i0, hi, hz0, hz1, hz2⟩ := info_parts info_int
  refine ⟨madeCells (Value.int .i64 0).cells (k * 1), fun w => ?_, ?_⟩
  · have := run_makeSlice (P := Try.prog) w 29 3 i0 (.int .i64 0) Try.underlying29 hi hz0 .i64 .i64 0 (k : Nat) (by omega) (by omega) (by rw [hz1]; simp; omega) (by rw [hz2]; omega) (by omega)
    rw [hz1] at this
    simpa using this
  · unfold madeCells
    simp [Value.cells]
set_option maxRecDepth 100000 in
set_option maxHeartbeats 8000000 in
theorem Merge_is (ga oa gb ob ac bc : Nat) (la lb : List Nat) (w : World) (ha : Nb w.heap.size w ga oa ac la) (hb_ : Nb w.heap.size w gb ob bc lb) (hla : la.length ≤ 40000) (hlb : lb.length ≤ 40000) :
    Calls Try.prog 99 #[.slice (some ⟨ga, oa, none⟩) la.length ac, .slice (some ⟨gb, ob, none⟩) lb.length bc, cmpF] w fun e w' => ∃ v, e = .returned v ∧ NL w' w.heap.size v (mrg la lb) ∧ Below w.heap.size w w' := by
  have hac := ha.capl
  have hbc := hb_.capl
  have hacb := ha.capb
  have hbcb := hb_.capb
  have HNA := Lib.hid ha
  have HNB := Lib.hid hb_
  obtain ⟨i0, hi, hz0, hz1, hz2⟩ := info_parts info_int
  obtain ⟨n, hn⟩ : ∃ n, la.length = n := ⟨_, rfl⟩
  obtain ⟨m, hm⟩ : ∃ m, lb.length = m := ⟨_, rfl⟩
  have HN := Lib.hid hn
  have HM := Lib.hid hm
  rw [hn] at hla hac ⊢
  rw [hm] at hlb hbc ⊢
  clear ha hb_ hn hm
  obtain ⟨k, hk⟩ : ∃ k, n + m = k := ⟨_, rfl⟩
  have hki : (n : Int) + (m : Int) = (k : Nat) := by omega
  obtain ⟨MC, run_mk, hMC⟩ := make_ints k (by omega)
  go_enter Try.func99, Try.ntmps99
  go_wp2_with fail
  refine name_world ?_
  intro V hV
  have NC : Hid (NL V w.heap.size (.slice (some ⟨w.heap.size, 0, none⟩) 0 k) []) := by
    rw [hV]
    exact Lib.hid ⟨by simp, .inr ⟨w.heap.size, k, MC, rfl, Nat.le_refl _, World.alloc_heap_new w _, by simp, by unfold maxLen; omega, by omega, by simp⟩⟩
  have BV : Hid (Below w.heap.size w V) := by rw [hV]; exact Lib.hid (below_a1 _ _)
  have NA := Lib.hid (HNA.out.of BV.out)
  have NB := Lib.hid (HNB.out.of BV.out)
  clear hV HNA HNB run_mk hMC hki
  go_loopg [0, 1, 7] (n + m) (fun gk s0 s1 s7 wr => ∃ (p q c oa' ob' ac' bc' : Nat) (co : Option Addr) (cc : Nat) (A B C : List Nat), s0 = .slice (some ⟨ga, oa', none⟩) p ac' ∧ s1 = .slice (some ⟨gb, ob', none⟩) q bc' ∧ s7 = .slice co c cc ∧ p + q ≤ gk ∧ p ≤ 40000 ∧ q ≤ 40000 ∧ c + (p + q) = n + m ∧ Hid (A.length = p ∧ B.length = q ∧ C.length = c) ∧ Hid (C ++ mrg A B = mrg la lb) ∧ Hid (Nb w.heap.size wr ga oa' ac' A) ∧ Hid (Nb w.heap.size wr gb ob' bc' B) ∧ Hid (NL wr w.heap.size (.slice co c cc) C) ∧ Hid (Below w.heap.size w wr))
  case atStart => exact ⟨n, m, 0, oa, ob, ac, bc, _, _, la, lb, [], rfl, rfl, rfl, Nat.le_refl _, hla, hlb, by omega, Lib.hid ⟨HN.out, HM.out, rfl⟩, Lib.hid (List.nil_append _), NA, NB, NC, BV⟩
  case round =>
    clear NA NB NC BV
    obtain ⟨p, q, c, oa', ob', ac', bc', co, cc, A, B, C, rfl, rfl, rfl, hgk, hp, hq, hc, HL, HE, NA, NB, NC, HW⟩ := hrel
    have ca := NA.out.capl
    have cab := NA.out.capb
    have cb := NB.out.capl
    have cbb := NB.out.capb
    rw [HL.out.1] at ca
    rw [HL.out.2.1] at cb
    by_cases hpq : 0 < p ∧ 0 < q
    · obtain ⟨hp0, hq0⟩ := hpq
      obtain ⟨x, A', hA⟩ : ∃ x A', A = x :: A' := by
        cases A with
        | nil => have := HL.out.1; simp at this; omega
        | cons x A' => exact ⟨x, A', rfl⟩
      obtain ⟨y, B', hB⟩ : ∃ y B', B = y :: B' := by
        cases B with
        | nil => have := HL.out.2.1; simp at this; omega
        | cons y B' => exact ⟨y, B', rfl⟩
      subst hA
      subst hB
      have p0 : wr.cell? ⟨ga, oa', none⟩ = some (.int .i64 (x : Nat)) := NA.out.cell 0 x rfl
      have q0 : wr.cell? ⟨gb, ob', none⟩ = some (.int .i64 (y : Nat)) := NB.out.cell 0 y rfl
      have lga := NA.out.lt
      have lgb := NB.out.lt
      have hp0i : (0 : Int) < (p : Int) := by omega
      have hq0i : (0 : Int) < (q : Int) := by omega
      obtain ⟨r, hr⟩ : ∃ r, cmpI (y : Int) (x : Int) = r := ⟨_, rfl⟩
      have HRR := Lib.hid hr
      have hr3 : (r < 0 ∧ y < x) ∨ (¬ r < 0 ∧ ¬ y < x) := by rw [← hr]; unfold cmpI; split <;> omega
      clear hr
      go_wp2_with fail
      refine wp_region_up wr.heap.size 7 [(true, 0), (true, 1), (true, 2), (true, 3), (true, 4), (true, 5), (true, 6)] (by kernel_rfl) (by kernel_rfl) (fun _ _ d _ _ h => by cases d <;> exact h) ?_
      have hb : Below wr.heap.size wr wr.drew := (Below.refl _ _).drew
      iterate 7
        refine wpS_takeL rfl rfl ?_
        go_big_quiet_step (rfl)
        refine wpQuiet_nil ?_
      refine wpS_nil ?_
      simp only [List.drop_succ_cons, List.drop_zero]
      go_wp2_with fail
      refine (CmpI_is (y : Nat) (x : Nat) r HRR.out _).mono ?_
      rintro e w2 ⟨rfl, hn⟩
      have hb12 := hb.trans (hn.mono hb.size)
      have NA2 := Lib.hid (NA.out.of (hb12.mono HW.out.size))
      have NB2 := Lib.hid (NB.out.of (hb12.mono HW.out.size))
      have NC2 := Lib.hid (NC.out.of hb12)
      have HW2 := Lib.hid (HW.out.trans (hb12.mono HW.out.size))
      clear hb hn hb12 p0 q0 lga lgb NA NB NC HW
      have p0 : w2.cell? ⟨ga, oa', none⟩ = some (.int .i64 (x : Nat)) := NA2.out.cell 0 x rfl
      have q0 : w2.cell? ⟨gb, ob', none⟩ = some (.int .i64 (y : Nat)) := NB2.out.cell 0 y rfl
      have lga := NA2.out.lt
      have lgb := NB2.out.lt
      obtain ⟨RL, hRL⟩ : ∃ RL, (Value.slice co c cc).ownBlock.toList = RL := ⟨_, rfl⟩
      have HRL := Lib.hid hRL
      have na : ga ∉ RL := by rw [← hRL]; intro h; have := (NC2.out.own (by simpa using h)).1; have := NA2.out.lo; omega
      have nb : gb ∉ RL := by rw [← hRL]; intro h; have := (NC2.out.own (by simpa using h)).1; have := NB2.out.lo; omega
      clear hRL
      have hsz2 := HW2.out.size
      rcases hr3 with ⟨hr0, hyx⟩ | ⟨hr0, hyx⟩
      · rcases Nat.lt_or_ge 1 bc' with hb1 | hb1
        · have hb1 : ¬ bc' = 1 := by omega
          skip
          go_wp2_with fail
          refine wp_region_upl RL 9 [(true, 0), (true, 1), (true, 2), (true, 3), (true, 6), (true, 7), (false, 4), (false, 5), (true, 8)] (by kernel_rfl) (by kernel_rfl) (fun _ _ d _ _ h => by cases d <;> exact h) ?_
          iterate 6
            refine wpS_takeL rfl rfl ?_
            go_big_quiet_step (rfl)
            refine wpQuiet_nil ?_
          refine wpS_doL rfl ?_
          intro K hK
          go_wp2_with fail
          refine name_Kw ?_
          intro Wx hWx
          have kx : Blk Wx w2.heap.size #[.int .i64 (y : Nat)] 3 := by rw [hWx]; exact Blk.new w2.drew _ _
          have hbx : Below w2.heap.size w2 Wx := by rw [hWx]; exact ((Below.refl _ _).drew).alloc (by simp) _
          have hsx : Wx.heap.size = w2.heap.size + 1 := by rw [hWx]; simp
          refine hK.out _ _ (upl (OutL.ofBelow hbx)) ?_
          clear hK K hWx
          refine wpS_doL rfl ?_
          intro K hK
          refine wpList_append_nl rfl _ _ rfl w.heap.size (.slice co c cc) C y w2.heap.size rfl rfl kx (NC2.out.of hbx) (by rw [HL.out.2.2]; omega) (by omega) ?_
          intro co5 c5 cc5 W5 nl5 gr5
          have hc5 : c5 = c + 1 := by
            obtain ⟨_, _, e, _⟩ := nl5.val
            injection e with _ e _
            rw [e, List.length_append, HL.out.2.2]; rfl
          subst hc5
          have hbo5 : OutL RL w2 W5 := (OutL.ofBelow hbx).trans ⟨gr5.os, gr5.tape, gr5.output, gr5.size, fun k hk hc => gr5.block k hk fun e => hc (by rw [← HRL.out, ← e]; simp)⟩
          have hW5 : Below w.heap.size w2 W5 := hbo5.below hsz2 (fun k hk => (NC2.out.own (by rw [← HRL.out] at hk; simpa using hk)).1)
          have NA5 := Lib.hid (NA2.out.of hW5)
          have NB5 := Lib.hid ((NB2.out.of hW5).tail (o' := ob' + 1) (.inl rfl))
          have NC5 := Lib.hid nl5
          have HW5 := Lib.hid (HW2.out.trans hW5)
          have HE5 : Hid ((C ++ [y]) ++ mrg (x :: A') B' = mrg la lb) := by
            have := HE.out
            rw [mrg_lt hyx] at this
            rw [List.append_assoc]; exact Lib.hid this
          have HL5 : Hid ((x :: A').length = p ∧ B'.length = q - 1 ∧ (C ++ [y]).length = c + 1) := by
            have h1 := HL.out.1
            have h2 := HL.out.2.1
            simp only [List.length_cons] at h1 h2
            exact Lib.hid ⟨by first | exact HL.out.1 | omega, by first | exact HL.out.2.1 | omega, by rw [List.length_append, HL.out.2.2]; rfl⟩
          go_wp2_with fail
          refine hK.out _ _ (upl hbo5) ?_
          clear hK K kx hbx hsx hbo5 hW5 nl5 gr5 p0 q0 lga lgb na nb HRL
          simp only [Act.put, List.setIfInBounds_toArray, List.set_cons_succ, List.set_cons_zero]
          refine wpS_takeL rfl rfl ?_
          go_big_quiet_step (rfl)
          refine wpQuiet_nil ?_
          refine wpS_nil ?_
          simp only [List.drop_succ_cons, List.drop_zero]
          go_wp2_with fail
          go_roundg (p + q - 1)
          case measure => omega
          case rel => exact ⟨p, q - 1, c + 1, oa', ob' + 1, ac', bc' - 1, co5, cc5, (x :: A'), B', C ++ [y], by rfl, by rfl, rfl, by omega, by omega, by omega, by omega, HL5, HE5, NA5, NB5, NC5, HW5⟩
        · have hb1 : bc' = 1 := by omega
          subst hb1
          obtain rfl : q = 1 := by omega
          go_wp2_with fail
          refine wp_region_upl RL 9 [(true, 0), (true, 1), (true, 2), (true, 3), (true, 6), (true, 7), (false, 4), (false, 5), (true, 8)] (by kernel_rfl) (by kernel_rfl) (fun _ _ d _ _ h => by cases d <;> exact h) ?_
          iterate 6
            refine wpS_takeL rfl rfl ?_
            go_big_quiet_step (rfl)
            refine wpQuiet_nil ?_
          refine wpS_doL rfl ?_
          intro K hK
          go_wp2_with fail
          refine name_Kw ?_
          intro Wx hWx
          have kx : Blk Wx w2.heap.size #[.int .i64 (y : Nat)] 3 := by rw [hWx]; exact Blk.new w2.drew _ _
          have hbx : Below w2.heap.size w2 Wx := by rw [hWx]; exact ((Below.refl _ _).drew).alloc (by simp) _
          have hsx : Wx.heap.size = w2.heap.size + 1 := by rw [hWx]; simp
          refine hK.out _ _ (upl (OutL.ofBelow hbx)) ?_
          clear hK K hWx
          refine wpS_doL rfl ?_
          intro K hK
          refine wpList_append_nl rfl _ _ rfl w.heap.size (.slice co c cc) C y w2.heap.size rfl rfl kx (NC2.out.of hbx) (by rw [HL.out.2.2]; omega) (by omega) ?_
          intro co5 c5 cc5 W5 nl5 gr5
          have hc5 : c5 = c + 1 := by
            obtain ⟨_, _, e, _⟩ := nl5.val
            injection e with _ e _
            rw [e, List.length_append, HL.out.2.2]; rfl
          subst hc5
          have hbo5 : OutL RL w2 W5 := (OutL.ofBelow hbx).trans ⟨gr5.os, gr5.tape, gr5.output, gr5.size, fun k hk hc => gr5.block k hk fun e => hc (by rw [← HRL.out, ← e]; simp)⟩
          have hW5 : Below w.heap.size w2 W5 := hbo5.below hsz2 (fun k hk => (NC2.out.own (by rw [← HRL.out] at hk; simpa using hk)).1)
          have NA5 := Lib.hid (NA2.out.of hW5)
          have NB5 := Lib.hid ((NB2.out.of hW5).tail (o' := ob') (.inr (by have := NB2.out.capl; simp only [List.length_cons] at this; exact List.eq_nil_of_length_eq_zero (by omega))))
          have NC5 := Lib.hid nl5
          have HW5 := Lib.hid (HW2.out.trans hW5)
          have HE5 : Hid ((C ++ [y]) ++ mrg (x :: A') B' = mrg la lb) := by
            have := HE.out
            rw [mrg_lt hyx] at this
            rw [List.append_assoc]; exact Lib.hid this
          have HL5 : Hid ((x :: A').length = p ∧ B'.length = 1 - 1 ∧ (C ++ [y]).length = c + 1) := by
            have h1 := HL.out.1
            have h2 := HL.out.2.1
            simp only [List.length_cons] at h1 h2
            exact Lib.hid ⟨by first | exact HL.out.1 | omega, by first | exact HL.out.2.1 | omega, by rw [List.length_append, HL.out.2.2]; rfl⟩
          go_wp2_with fail
          refine hK.out _ _ (upl hbo5) ?_
          clear hK K kx hbx hsx hbo5 hW5 nl5 gr5 p0 q0 lga lgb na nb HRL
          simp only [Act.put, List.setIfInBounds_toArray, List.set_cons_succ, List.set_cons_zero]
          refine wpS_takeL rfl rfl ?_
          go_big_quiet_step (rfl)
          refine wpQuiet_nil ?_
          refine wpS_nil ?_
          simp only [List.drop_succ_cons, List.drop_zero]
          go_wp2_with fail
          go_roundg (p + 1 - 1)
          case measure => omega
          case rel => exact ⟨p, 1 - 1, c + 1, oa', ob', ac', 1 - 1, co5, cc5, (x :: A'), B', C ++ [y], by rfl, by rfl, rfl, by omega, by omega, by omega, by omega, HL5, HE5, NA5, NB5, NC5, HW5⟩
      · rcases Nat.lt_or_ge 1 ac' with hb1 | hb1
        · have hb1 : ¬ ac' = 1 := by omega
          skip
          go_wp2_with fail
          refine wp_region_upl RL 9 [(true, 0), (true, 1), (true, 2), (true, 3), (true, 6), (true, 7), (false, 4), (false, 5), (true, 8)] (by kernel_rfl) (by kernel_rfl) (fun _ _ d _ _ h => by cases d <;> exact h) ?_
          iterate 6
            refine wpS_takeL rfl rfl ?_
            go_big_quiet_step (rfl)
            refine wpQuiet_nil ?_
          refine wpS_doL rfl ?_
          intro K hK
          go_wp2_with fail
          refine name_Kw ?_
          intro Wx hWx
          have kx : Blk Wx w2.heap.size #[.int .i64 (x : Nat)] 3 := by rw [hWx]; exact Blk.new w2.drew _ _
          have hbx : Below w2.heap.size w2 Wx := by rw [hWx]; exact ((Below.refl _ _).drew).alloc (by simp) _
          have hsx : Wx.heap.size = w2.heap.size + 1 := by rw [hWx]; simp
          refine hK.out _ _ (upl (OutL.ofBelow hbx)) ?_
          clear hK K hWx
          refine wpS_doL rfl ?_
          intro K hK
          refine wpList_append_nl rfl _ _ rfl w.heap.size (.slice co c cc) C x w2.heap.size rfl rfl kx (NC2.out.of hbx) (by rw [HL.out.2.2]; omega) (by omega) ?_
          intro co5 c5 cc5 W5 nl5 gr5
          have hc5 : c5 = c + 1 := by
            obtain ⟨_, _, e, _⟩ := nl5.val
            injection e with _ e _
            rw [e, List.length_append, HL.out.2.2]; rfl
          subst hc5
          have hbo5 : OutL RL w2 W5 := (OutL.ofBelow hbx).trans ⟨gr5.os, gr5.tape, gr5.output, gr5.size, fun k hk hc => gr5.block k hk fun e => hc (by rw [← HRL.out, ← e]; simp)⟩
          have hW5 : Below w.heap.size w2 W5 := hbo5.below hsz2 (fun k hk => (NC2.out.own (by rw [← HRL.out] at hk; simpa using hk)).1)
          have NA5 := Lib.hid ((NA2.out.of hW5).tail (o' := oa' + 1) (.inl rfl))
          have NB5 := Lib.hid (NB2.out.of hW5)
          have NC5 := Lib.hid nl5
          have HW5 := Lib.hid (HW2.out.trans hW5)
          have HE5 : Hid ((C ++ [x]) ++ mrg A' (y :: B') = mrg la lb) := by
            have := HE.out
            rw [mrg_ge hyx] at this
            rw [List.append_assoc]; exact Lib.hid this
          have HL5 : Hid (A'.length = p - 1 ∧ (y :: B').length = q ∧ (C ++ [x]).length = c + 1) := by
            have h1 := HL.out.1
            have h2 := HL.out.2.1
            simp only [List.length_cons] at h1 h2
            exact Lib.hid ⟨by first | exact HL.out.1 | omega, by first | exact HL.out.2.1 | omega, by rw [List.length_append, HL.out.2.2]; rfl⟩
          go_wp2_with fail
          refine hK.out _ _ (upl hbo5) ?_
          clear hK K kx hbx hsx hbo5 hW5 nl5 gr5 p0 q0 lga lgb na nb HRL
          simp only [Act.put, List.setIfInBounds_toArray, List.set_cons_succ, List.set_cons_zero]
          refine wpS_takeL rfl rfl ?_
          go_big_quiet_step (rfl)
          refine wpQuiet_nil ?_
          refine wpS_nil ?_
          simp only [List.drop_succ_cons, List.drop_zero]
          go_wp2_with fail
          go_roundg (p + q - 1)
          case measure => omega
          case rel => exact ⟨p - 1, q, c + 1, oa' + 1, ob', ac' - 1, bc', co5, cc5, A', (y :: B'), C ++ [x], by rfl, by rfl, rfl, by omega, by omega, by omega, by omega, HL5, HE5, NA5, NB5, NC5, HW5⟩
        · have hb1 : ac' = 1 := by omega
          subst hb1
          obtain rfl : p = 1 := by omega
          go_wp2_with fail
          refine wp_region_upl RL 9 [(true, 0), (true, 1), (true, 2), (true, 3), (true, 6), (true, 7), (false, 4), (false, 5), (true, 8)] (by kernel_rfl) (by kernel_rfl) (fun _ _ d _ _ h => by cases d <;> exact h) ?_
          iterate 6
            refine wpS_takeL rfl rfl ?_
            go_big_quiet_step (rfl)
            refine wpQuiet_nil ?_
          refine wpS_doL rfl ?_
          intro K hK
          go_wp2_with fail
          refine name_Kw ?_
          intro Wx hWx
          have kx : Blk Wx w2.heap.size #[.int .i64 (x : Nat)] 3 := by rw [hWx]; exact Blk.new w2.drew _ _
          have hbx : Below w2.heap.size w2 Wx := by rw [hWx]; exact ((Below.refl _ _).drew).alloc (by simp) _
          have hsx : Wx.heap.size = w2.heap.size + 1 := by rw [hWx]; simp
          refine hK.out _ _ (upl (OutL.ofBelow hbx)) ?_
          clear hK K hWx
          refine wpS_doL rfl ?_
          intro K hK
          refine wpList_append_nl rfl _ _ rfl w.heap.size (.slice co c cc) C x w2.heap.size rfl rfl kx (NC2.out.of hbx) (by rw [HL.out.2.2]; omega) (by omega) ?_
          intro co5 c5 cc5 W5 nl5 gr5
          have hc5 : c5 = c + 1 := by
            obtain ⟨_, _, e, _⟩ := nl5.val
            injection e with _ e _
            rw [e, List.length_append, HL.out.2.2]; rfl
          subst hc5
          have hbo5 : OutL RL w2 W5 := (OutL.ofBelow hbx).trans ⟨gr5.os, gr5.tape, gr5.output, gr5.size, fun k hk hc => gr5.block k hk fun e => hc (by rw [← HRL.out, ← e]; simp)⟩
          have hW5 : Below w.heap.size w2 W5 := hbo5.below hsz2 (fun k hk => (NC2.out.own (by rw [← HRL.out] at hk; simpa using hk)).1)
          have NA5 := Lib.hid ((NA2.out.of hW5).tail (o' := oa') (.inr (by have := NA2.out.capl; simp only [List.length_cons] at this; exact List.eq_nil_of_length_eq_zero (by omega))))
          have NB5 := Lib.hid (NB2.out.of hW5)
          have NC5 := Lib.hid nl5
          have HW5 := Lib.hid (HW2.out.trans hW5)
          have HE5 : Hid ((C ++ [x]) ++ mrg A' (y :: B') = mrg la lb) := by
            have := HE.out
            rw [mrg_ge hyx] at this
            rw [List.append_assoc]; exact Lib.hid this
          have HL5 : Hid (A'.length = 1 - 1 ∧ (y :: B').length = q ∧ (C ++ [x]).length = c + 1) := by
            have h1 := HL.out.1
            have h2 := HL.out.2.1
            simp only [List.length_cons] at h1 h2
            exact Lib.hid ⟨by first | exact HL.out.1 | omega, by first | exact HL.out.2.1 | omega, by rw [List.length_append, HL.out.2.2]; rfl⟩
          go_wp2_with fail
          refine hK.out _ _ (upl hbo5) ?_
          clear hK K kx hbx hsx hbo5 hW5 nl5 gr5 p0 q0 lga lgb na nb HRL
          simp only [Act.put, List.setIfInBounds_toArray, List.set_cons_succ, List.set_cons_zero]
          refine wpS_takeL rfl rfl ?_
          go_big_quiet_step (rfl)
          refine wpQuiet_nil ?_
          refine wpS_nil ?_
          simp only [List.drop_succ_cons, List.drop_zero]
          go_wp2_with fail
          go_roundg (1 + q - 1)
          case measure => omega
          case rel => exact ⟨1 - 1, q, c + 1, oa', ob', 1 - 1, bc', co5, cc5, A', (y :: B'), C ++ [x], by rfl, by rfl, rfl, by omega, by omega, by omega, by omega, HL5, HE5, NA5, NB5, NC5, HW5⟩
    · rcases Nat.eq_zero_or_pos p with hp0 | hp0
      · subst hp0
        have hmr : mrg A B = A ++ B := by
          have h1 := HL.out.1
          have h2 := HL.out.2.1
          first
          | (have e : A = [] := List.eq_nil_of_length_eq_zero (by omega)
             simp [e, mrg_nil])
          | (have e : B = [] := List.eq_nil_of_length_eq_zero (by omega)
             simp [e, mrg_nil2])
        have hlA : (nI A).length = 0 * 1 := by have h1 := nI_len A; have h2 := HL.out.1; omega
        have hlB : (nI B).length = q * 1 := by have h1 := nI_len B; have h2 := HL.out.2.1; omega
        have hb1 : C.length + 0 ≤ maxLen := by unfold maxLen; have := HL.out.2.2; omega
        have hb2 : (C.length + 0) * 8 ≤ 140737488355328 := by have := HL.out.2.2; omega
        have hb3 : (C ++ A).length + q ≤ maxLen := by unfold maxLen; rw [List.length_append]; have h1 := HL.out.2.2; have h2 := HL.out.1; omega
        have hb4 : ((C ++ A).length + q) * 8 ≤ 140737488355328 := by rw [List.length_append]; have h1 := HL.out.2.2; have h2 := HL.out.1; omega
        have HE2 := Lib.hid (show C ++ (A ++ B) = mrg la lb by rw [← hmr]; exact HE.out)
        have hszr := HW.out.size
        clear hmr
        go_wp2_with (at_builtin; go_loud (refine wpList_append_lies _ rfl _ _ 29 rfl w.heap.size 3 i0 (.int .i64 0) 1 8 Try.underlying29 hi hz0 hz1 hz2 rfl (by decide) (.slice co c cc) C.length (nI C) rfl NC.out ⟨ga, oa', none⟩ 0 ac' (nI A) rfl hlA NA.out.src (nI_one A) hb1 hb2 hszr ?_))
        intro v1 w1 own1 gr1 _
        have NC1 : Hid (NL w1 w.heap.size v1 (C ++ A)) := by
          refine Lib.hid ?_
          unfold NL
          rw [List.length_append, List.map_append, HL.out.1]; exact own1
        have hW1 : Below w.heap.size wr w1 := ⟨gr1.os, gr1.tape, gr1.output, gr1.size, fun g hg => gr1.block g (by omega) (fun e => by have := (NC.out.own e.symm).1; omega)⟩
        have NB1 := Lib.hid (NB.out.of hW1)
        have HW1 := Lib.hid (HW.out.trans hW1)
        have hs1 := HW1.out.size
        clear own1 gr1 hW1 NC NA NB HW
        go_wp2_with (at_builtin; go_loud (refine wpList_append_lies _ rfl _ _ 29 rfl w.heap.size 3 i0 (.int .i64 0) 1 8 Try.underlying29 hi hz0 hz1 hz2 rfl (by decide) v1 (C ++ A).length (nI (C ++ A)) rfl NC1.out ⟨gb, ob', none⟩ q bc' (nI B) rfl hlB NB1.out.src (nI_one B) hb3 hb4 hs1 ?_))
        intro v2 w2 own2 gr2 _
        have NC2 : Hid (NL w2 w.heap.size v2 (mrg la lb)) := by
          rw [← HE2.out, ← List.append_assoc]
          refine Lib.hid ?_
          unfold NL
          rw [List.length_append, List.map_append, HL.out.2.1, List.length_append]; exact own2
        have hW2 : Below w.heap.size w1 w2 := ⟨gr2.os, gr2.tape, gr2.output, gr2.size, fun g hg => gr2.block g (by omega) (fun e => by have := (NC1.out.own e.symm).1; omega)⟩
        have HW2 := Lib.hid (HW1.out.trans hW2)
        clear own2 gr2 hW2 NC1 NB1 HW1
        go_wp2
        go_ret
        exact ⟨_, rfl, NC2.out, HW2.out⟩
      · have hq0 : q = 0 := by omega
        subst hq0
        have hp0i : (0 : Int) < (p : Int) := by omega
        have hmr : mrg A B = A ++ B := by
          have h1 := HL.out.1
          have h2 := HL.out.2.1
          first
          | (have e : A = [] := List.eq_nil_of_length_eq_zero (by omega)
             simp [e, mrg_nil])
          | (have e : B = [] := List.eq_nil_of_length_eq_zero (by omega)
             simp [e, mrg_nil2])
        have hlA : (nI A).length = p * 1 := by have h1 := nI_len A; have h2 := HL.out.1; omega
        have hlB : (nI B).length = 0 * 1 := by have h1 := nI_len B; have h2 := HL.out.2.1; omega
        have hb1 : C.length + p ≤ maxLen := by unfold maxLen; have := HL.out.2.2; omega
        have hb2 : (C.length + p) * 8 ≤ 140737488355328 := by have := HL.out.2.2; omega
        have hb3 : (C ++ A).length + 0 ≤ maxLen := by unfold maxLen; rw [List.length_append]; have h1 := HL.out.2.2; have h2 := HL.out.1; omega
        have hb4 : ((C ++ A).length + 0) * 8 ≤ 140737488355328 := by rw [List.length_append]; have h1 := HL.out.2.2; have h2 := HL.out.1; omega
        have HE2 := Lib.hid (show C ++ (A ++ B) = mrg la lb by rw [← hmr]; exact HE.out)
        have hszr := HW.out.size
        clear hmr
        go_wp2_with (at_builtin; go_loud (refine wpList_append_lies _ rfl _ _ 29 rfl w.heap.size 3 i0 (.int .i64 0) 1 8 Try.underlying29 hi hz0 hz1 hz2 rfl (by decide) (.slice co c cc) C.length (nI C) rfl NC.out ⟨ga, oa', none⟩ p ac' (nI A) rfl hlA NA.out.src (nI_one A) hb1 hb2 hszr ?_))
        intro v1 w1 own1 gr1 _
        have NC1 : Hid (NL w1 w.heap.size v1 (C ++ A)) := by
          refine Lib.hid ?_
          unfold NL
          rw [List.length_append, List.map_append, HL.out.1]; exact own1
        have hW1 : Below w.heap.size wr w1 := ⟨gr1.os, gr1.tape, gr1.output, gr1.size, fun g hg => gr1.block g (by omega) (fun e => by have := (NC.out.own e.symm).1; omega)⟩
        have NB1 := Lib.hid (NB.out.of hW1)
        have HW1 := Lib.hid (HW.out.trans hW1)
        have hs1 := HW1.out.size
        clear own1 gr1 hW1 NC NA NB HW
        go_wp2_with (at_builtin; go_loud (refine wpList_append_lies _ rfl _ _ 29 rfl w.heap.size 3 i0 (.int .i64 0) 1 8 Try.underlying29 hi hz0 hz1 hz2 rfl (by decide) v1 (C ++ A).length (nI (C ++ A)) rfl NC1.out ⟨gb, ob', none⟩ 0 bc' (nI B) rfl hlB NB1.out.src (nI_one B) hb3 hb4 hs1 ?_))
        intro v2 w2 own2 gr2 _
        have NC2 : Hid (NL w2 w.heap.size v2 (mrg la lb)) := by
          rw [← HE2.out, ← List.append_assoc]
          refine Lib.hid ?_
          unfold NL
          rw [List.length_append, List.map_append, HL.out.2.1, List.length_append]; exact own2
        have hW2 : Below w.heap.size w1 w2 := ⟨gr2.os, gr2.tape, gr2.output, gr2.size, fun g hg => gr2.block g (by omega) (fun e => by have := (NC1.out.own e.symm).1; omega)⟩
        have HW2 := Lib.hid (HW1.out.trans hW2)
        clear own2 gr2 hW2 NC1 NB1 HW1
        go_wp2
        go_ret
        exact ⟨_, rfl, NC2.out, HW2.out⟩
end Go.Proofs.Ytdlpfiiakmhnlaa

