/- Calls of strconv at known numbers. Conditions: the table of powers lies as laid. -/
import Derived.Test.YtcfiemeknocgjaaDoorProg
import Derived.Test.YtcfiemeknocgjaaDoorBlk
import Derived.Test.YtcfiemeknocgjaaDoorWide7
namespace Go.Proofs.YtcfiemeknocgjaaDoor
open Go.RowKit

set_option maxRecDepth 100000 in
set_option maxHeartbeats 1000000 in
theorem small36 (w : World) : Calls Tryd.prog 55 #[.int .i64 36] w fun e w' => e = .returned (.string ⟨#[51, 54]⟩) ∧ Below w.heap.size w w' := by
  go_enter Tryd.func55, Tryd.ntmps55
  go_wp2
  go_ret
  exact ⟨by kernel_rfl, Below.refl _ _⟩
set_option maxRecDepth 100000 in
set_option maxHeartbeats 1000000 in
theorem fmt36 (w : World) : Calls Tryd.prog 51 #[.int .u64 36, .int .i64 10] w fun e w' => e = .returned (.string ⟨#[51, 54]⟩) ∧ Below w.heap.size w w' := by
  go_enter Tryd.func51, Tryd.ntmps51
  go_wp2_with fail
  refine (small36 _).mono ?_
  rintro e w1 ⟨rfl, hn⟩
  go_wp2
  go_ret
  exact ⟨rfl, hn⟩
set_option maxRecDepth 100000 in
set_option maxHeartbeats 1000000 in
theorem len64_c (w : World) : Calls Tryd.prog 41 #[.int .u64 893488147419103232] w fun e w' => e = .returned (.int .i64 60) ∧ Below w.heap.size w w' := by
  go_enter Tryd.func41, Tryd.ntmps41
  go_wp2
  go_ret
  exact ⟨by kernel_rfl, Below.refl _ _⟩

/-- the table of the powers of ten -/
def Tab (w : World) : Prop := 0 < w.heap.size ∧ ∀ i, i < 20 → w.cell? ⟨0, i, none⟩ = some (.int .u64 (10 ^ i))
theorem Tab.of {w w' : World} (h : Tab w) (hb : Below w.heap.size w w') : Tab w' :=
  ⟨Nat.lt_of_lt_of_le h.1 hb.size, fun i hi => by
    have e := hb.block 0 h.1
    have g := h.2 i hi
    unfold World.cell? at g ⊢
    rw [e]; exact g⟩
set_option maxRecDepth 100000 in
set_option maxHeartbeats 1000000 in
theorem log18 (w : World) : Calls Tryd.prog 60 #[.int .i64 60] w fun e w' => e = .returned (.int .i64 18) ∧ Below w.heap.size w w' := by
  go_enter Tryd.func60, Tryd.ntmps60
  go_wp2
  go_ret
  exact ⟨by kernel_rfl, Below.refl _ _⟩
set_option maxRecDepth 100000 in
set_option maxHeartbeats 1000000 in
theorem bool2_any (b : Bool) (w : World) : Calls Tryd.prog 61 #[.bool b] w fun e w' => e = .returned (.int .i64 (bif b then 1 else 0)) ∧ Below w.heap.size w w' := by
  cases b
  all_goals
    go_enter Tryd.func61, Tryd.ntmps61
    go_wp2
    go_ret
    exact ⟨rfl, Below.refl _ _⟩
set_option maxRecDepth 100000 in
set_option maxHeartbeats 1000000 in
theorem nd_c (w : World) (hG : Tab w) : Calls Tryd.prog 56 #[.int .u64 893488147419103232] w fun e w' => e = .returned (.int .i64 18) ∧ Below w.heap.size w w' := by
  go_enter Tryd.func56, Tryd.ntmps56
  go_wp2_with fail
  refine (len64_c _).mono ?_
  rintro e w1 ⟨rfl, hn⟩
  have h1 := hG.of hn
  clear hG
  go_wp2_with fail
  refine (log18 _).mono ?_
  rintro e w2 ⟨rfl, hb⟩
  have h2 := h1.of hb
  replace hn := hn.trans (hb.mono hn.size)
  clear h1 hb
  have hc : w2.cell? ⟨0, 18, none⟩ = some (.int .u64 1000000000000000000) := h2.2 18 (by decide)
  go_wp2_with fail
  refine (bool2_any _ _).mono ?_
  rintro e w3 ⟨rfl, hb⟩
  replace hn := hn.trans (hb.mono hn.size)
  go_wp2
  go_ret
  exact ⟨rfl, hn⟩
set_option maxRecDepth 100000 in
set_option maxHeartbeats 4000000 in
theorem base10_c (b : Nat) (w : World) (k : Blk w b #[.int .u8 0, .int .u8 0, .int .u8 0, .int .u8 0, .int .u8 0, .int .u8 0, .int .u8 0, .int .u8 0, .int .u8 0, .int .u8 0, .int .u8 0, .int .u8 0, .int .u8 0, .int .u8 0, .int .u8 0, .int .u8 0, .int .u8 0, .int .u8 0, .int .u8 0, .int .u8 0, .int .u8 0, .int .u8 0, .int .u8 0, .int .u8 0] 77) :
    Calls Tryd.prog 57 #[.slice (some ⟨b, 0, none⟩) 18 24, .int .u64 893488147419103232] w fun e w' => e = .returned (.tuple #[]) ∧ Blk w' b #[.int .u8 56, .int .u8 57, .int .u8 51, .int .u8 52, .int .u8 56, .int .u8 56, .int .u8 49, .int .u8 52, .int .u8 55, .int .u8 52, .int .u8 49, .int .u8 57, .int .u8 49, .int .u8 48, .int .u8 51, .int .u8 50, .int .u8 51, .int .u8 50, .int .u8 0, .int .u8 0, .int .u8 0, .int .u8 0, .int .u8 0, .int .u8 0] 77 ∧ Below b w w' := by
  have c0 := k.cell 0
  have f0 := k.free 0
  have c1 := k.cell 1
  have f1 := k.free 1
  have c2 := k.cell 2
  have f2 := k.free 2
  have c3 := k.cell 3
  have f3 := k.free 3
  have c4 := k.cell 4
  have f4 := k.free 4
  have c5 := k.cell 5
  have f5 := k.free 5
  have c6 := k.cell 6
  have f6 := k.free 6
  have c7 := k.cell 7
  have f7 := k.free 7
  have c8 := k.cell 8
  have f8 := k.free 8
  have c9 := k.cell 9
  have f9 := k.free 9
  have c10 := k.cell 10
  have f10 := k.free 10
  have c11 := k.cell 11
  have f11 := k.free 11
  have c12 := k.cell 12
  have f12 := k.free 12
  have c13 := k.cell 13
  have f13 := k.free 13
  have c14 := k.cell 14
  have f14 := k.free 14
  have c15 := k.cell 15
  have f15 := k.free 15
  have c16 := k.cell 16
  have f16 := k.free 16
  have c17 := k.cell 17
  have f17 := k.free 17
  have lk := k.lt
  simp only [List.getElem?_toArray, List.getElem?_cons_zero, List.getElem?_cons_succ] at c0 c1 c2 c3 c4 c5 c6 c7 c8 c9 c10 c11 c12 c13 c14 c15 c16 c17
  -- MARK
  clear lk c0 f0 c1 f1 c2 f2 c3 f3 c4 f4 c5 f5 c6 f6 c7 f7 c8 f8 c9 f9 c10 f10 c11 f11 c12 f12 c13 f13 c14 f14 c15 f15 c16 f16 c17 f17
  have c0 := k.cell 0
  have f0 := k.free 0
  have c1 := k.cell 1
  have f1 := k.free 1
  have c2 := k.cell 2
  have f2 := k.free 2
  have c3 := k.cell 3
  have f3 := k.free 3
  have c4 := k.cell 4
  have f4 := k.free 4
  have c5 := k.cell 5
  have f5 := k.free 5
  have c6 := k.cell 6
  have f6 := k.free 6
  have c7 := k.cell 7
  have f7 := k.free 7
  have c8 := k.cell 8
  have f8 := k.free 8
  have c9 := k.cell 9
  have f9 := k.free 9
  have c10 := k.cell 10
  have f10 := k.free 10
  have c11 := k.cell 11
  have f11 := k.free 11
  have c12 := k.cell 12
  have f12 := k.free 12
  have c13 := k.cell 13
  have f13 := k.free 13
  have c14 := k.cell 14
  have f14 := k.free 14
  have c15 := k.cell 15
  have f15 := k.free 15
  have c16 := k.cell 16
  have f16 := k.free 16
  have c17 := k.cell 17
  have f17 := k.free 17
  have lk := k.lt
  simp only [List.getElem?_toArray, List.getElem?_cons_zero, List.getElem?_cons_succ] at c0 c1 c2 c3 c4 c5 c6 c7 c8 c9 c10 c11 c12 c13 c14 c15 c16 c17
  go_enter Tryd.func57, Tryd.ntmps57
  go_wp2_with fail
  refine wp_loop_rounds 3 ?_
  rw [rounds_succ]
  go_wp2_with fail
  have hb0 : Below b w w := Below.refl _ _
  refine wp_region_G 12 [(0, 0), (0, 1), (0, 2), (2, 3), (2, 4), (2, 5), (0, 6), (0, 7), (0, 8), (2, 9), (2, 10), (0, 11), (3, 12), (2, 13), (3, 14)] (by kernel_rfl) (by kernel_rfl) (fun _ _ d _ _ => by cases d <;> exact Iff.rfl) ?_
  have hb : Below w.heap.size w w.drew := (Below.refl _ _).drew
  iterate 3
    refine wpG_take0 rfl rfl ?_
    go_big_quiet_step (rfl)
    refine wpQuiet_nil ?_
  iterate 3
    refine wpG_take2 rfl rfl ?_
    go_big_quiet_step (rfl)
    refine wpQuiet_nil ?_
  iterate 3
    refine wpG_take0 rfl rfl ?_
    go_big_quiet_step (rfl)
    refine wpQuiet_nil ?_
  iterate 2
    refine wpG_take2 rfl rfl ?_
    go_big_quiet_step (rfl)
    refine wpQuiet_nil ?_
  refine wpG_take0 rfl rfl ?_
  go_big_quiet_step (rfl)
  refine wpQuiet_nil ?_
  refine wpG_do3 rfl ?_
  intro K hK
  go_wp2_with (fail)
  refine hK.out _ _ ?_
  clear hK K
  refine wpG_take2 rfl rfl ?_
  go_big_quiet_step (rfl)
  refine wpQuiet_nil ?_
  refine wpG_do3 rfl ?_
  intro K hK
  go_wp2_with (fail)
  refine hK.out _ _ ?_
  clear hK K
  refine wpG_nil ?_
  clear hb
  go_wp2_with fail
  refine name_world ?_
  intro W1 h1
  replace k : Blk W1 b #[.int .u8 0, .int .u8 0, .int .u8 0, .int .u8 0, .int .u8 0, .int .u8 0, .int .u8 0, .int .u8 0, .int .u8 0, .int .u8 0, .int .u8 0, .int .u8 0, .int .u8 0, .int .u8 0, .int .u8 0, .int .u8 0, .int .u8 51, .int .u8 50, .int .u8 0, .int .u8 0, .int .u8 0, .int .u8 0, .int .u8 0, .int .u8 0] 77 := by rw [h1]; exact (k.put 17 _).put 16 _
  replace hb0 : Below b w W1 := by rw [h1]; exact ((hb0.setCell (Nat.le_refl _) _).setCell (Nat.le_refl _) _).drew
  clear h1
  clear lk c0 f0 c1 f1 c2 f2 c3 f3 c4 f4 c5 f5 c6 f6 c7 f7 c8 f8 c9 f9 c10 f10 c11 f11 c12 f12 c13 f13 c14 f14 c15 f15 c16 f16 c17 f17
  have c0 := k.cell 0
  have f0 := k.free 0
  have c1 := k.cell 1
  have f1 := k.free 1
  have c2 := k.cell 2
  have f2 := k.free 2
  have c3 := k.cell 3
  have f3 := k.free 3
  have c4 := k.cell 4
  have f4 := k.free 4
  have c5 := k.cell 5
  have f5 := k.free 5
  have c6 := k.cell 6
  have f6 := k.free 6
  have c7 := k.cell 7
  have f7 := k.free 7
  have c8 := k.cell 8
  have f8 := k.free 8
  have c9 := k.cell 9
  have f9 := k.free 9
  have c10 := k.cell 10
  have f10 := k.free 10
  have c11 := k.cell 11
  have f11 := k.free 11
  have c12 := k.cell 12
  have f12 := k.free 12
  have c13 := k.cell 13
  have f13 := k.free 13
  have c14 := k.cell 14
  have f14 := k.free 14
  have c15 := k.cell 15
  have f15 := k.free 15
  have c16 := k.cell 16
  have f16 := k.free 16
  have c17 := k.cell 17
  have f17 := k.free 17
  have lk := k.lt
  simp only [List.getElem?_toArray, List.getElem?_cons_zero, List.getElem?_cons_succ] at c0 c1 c2 c3 c4 c5 c6 c7 c8 c9 c10 c11 c12 c13 c14 c15 c16 c17
  refine wp_region_G 12 [(0, 0), (0, 1), (0, 2), (2, 3), (2, 4), (2, 5), (0, 6), (0, 7), (0, 8), (2, 9), (2, 10), (0, 11), (3, 12), (2, 13), (3, 14)] (by kernel_rfl) (by kernel_rfl) (fun _ _ d _ _ => by cases d <;> exact Iff.rfl) ?_
  have hb : Below W1.heap.size W1 W1.drew := (Below.refl _ _).drew
  iterate 3
    refine wpG_take0 rfl rfl ?_
    go_big_quiet_step (rfl)
    refine wpQuiet_nil ?_
  iterate 3
    refine wpG_take2 rfl rfl ?_
    go_big_quiet_step (rfl)
    refine wpQuiet_nil ?_
  iterate 3
    refine wpG_take0 rfl rfl ?_
    go_big_quiet_step (rfl)
    refine wpQuiet_nil ?_
  iterate 2
    refine wpG_take2 rfl rfl ?_
    go_big_quiet_step (rfl)
    refine wpQuiet_nil ?_
  refine wpG_take0 rfl rfl ?_
  go_big_quiet_step (rfl)
  refine wpQuiet_nil ?_
  refine wpG_do3 rfl ?_
  intro K hK
  go_wp2_with (fail)
  refine hK.out _ _ ?_
  clear hK K
  refine wpG_take2 rfl rfl ?_
  go_big_quiet_step (rfl)
  refine wpQuiet_nil ?_
  refine wpG_do3 rfl ?_
  intro K hK
  go_wp2_with (fail)
  refine hK.out _ _ ?_
  clear hK K
  refine wpG_nil ?_
  clear hb
  go_wp2_with fail
  refine name_world ?_
  intro W2 h2
  replace k : Blk W2 b #[.int .u8 0, .int .u8 0, .int .u8 0, .int .u8 0, .int .u8 0, .int .u8 0, .int .u8 0, .int .u8 0, .int .u8 0, .int .u8 0, .int .u8 0, .int .u8 0, .int .u8 0, .int .u8 0, .int .u8 51, .int .u8 50, .int .u8 51, .int .u8 50, .int .u8 0, .int .u8 0, .int .u8 0, .int .u8 0, .int .u8 0, .int .u8 0] 77 := by rw [h2]; exact (k.put 15 _).put 14 _
  replace hb0 : Below b w W2 := by rw [h2]; exact ((hb0.setCell (Nat.le_refl _) _).setCell (Nat.le_refl _) _).drew
  clear h2
  clear lk c0 f0 c1 f1 c2 f2 c3 f3 c4 f4 c5 f5 c6 f6 c7 f7 c8 f8 c9 f9 c10 f10 c11 f11 c12 f12 c13 f13 c14 f14 c15 f15 c16 f16 c17 f17
  have c0 := k.cell 0
  have f0 := k.free 0
  have c1 := k.cell 1
  have f1 := k.free 1
  have c2 := k.cell 2
  have f2 := k.free 2
  have c3 := k.cell 3
  have f3 := k.free 3
  have c4 := k.cell 4
  have f4 := k.free 4
  have c5 := k.cell 5
  have f5 := k.free 5
  have c6 := k.cell 6
  have f6 := k.free 6
  have c7 := k.cell 7
  have f7 := k.free 7
  have c8 := k.cell 8
  have f8 := k.free 8
  have c9 := k.cell 9
  have f9 := k.free 9
  have c10 := k.cell 10
  have f10 := k.free 10
  have c11 := k.cell 11
  have f11 := k.free 11
  have c12 := k.cell 12
  have f12 := k.free 12
  have c13 := k.cell 13
  have f13 := k.free 13
  have c14 := k.cell 14
  have f14 := k.free 14
  have c15 := k.cell 15
  have f15 := k.free 15
  have c16 := k.cell 16
  have f16 := k.free 16
  have c17 := k.cell 17
  have f17 := k.free 17
  have lk := k.lt
  simp only [List.getElem?_toArray, List.getElem?_cons_zero, List.getElem?_cons_succ] at c0 c1 c2 c3 c4 c5 c6 c7 c8 c9 c10 c11 c12 c13 c14 c15 c16 c17
  refine wp_region_G 12 [(0, 0), (0, 1), (0, 2), (2, 3), (2, 4), (2, 5), (0, 6), (0, 7), (0, 8), (2, 9), (2, 10), (0, 11), (3, 12), (2, 13), (3, 14)] (by kernel_rfl) (by kernel_rfl) (fun _ _ d _ _ => by cases d <;> exact Iff.rfl) ?_
  have hb : Below W2.heap.size W2 W2.drew := (Below.refl _ _).drew
  iterate 3
    refine wpG_take0 rfl rfl ?_
    go_big_quiet_step (rfl)
    refine wpQuiet_nil ?_
  iterate 3
    refine wpG_take2 rfl rfl ?_
    go_big_quiet_step (rfl)
    refine wpQuiet_nil ?_
  iterate 3
    refine wpG_take0 rfl rfl ?_
    go_big_quiet_step (rfl)
    refine wpQuiet_nil ?_
  iterate 2
    refine wpG_take2 rfl rfl ?_
    go_big_quiet_step (rfl)
    refine wpQuiet_nil ?_
  refine wpG_take0 rfl rfl ?_
  go_big_quiet_step (rfl)
  refine wpQuiet_nil ?_
  refine wpG_do3 rfl ?_
  intro K hK
  go_wp2_with (fail)
  refine hK.out _ _ ?_
  clear hK K
  refine wpG_take2 rfl rfl ?_
  go_big_quiet_step (rfl)
  refine wpQuiet_nil ?_
  refine wpG_do3 rfl ?_
  intro K hK
  go_wp2_with (fail)
  refine hK.out _ _ ?_
  clear hK K
  refine wpG_nil ?_
  clear hb
  go_wp2_with fail
  refine name_world ?_
  intro W3 h3
  replace k : Blk W3 b #[.int .u8 0, .int .u8 0, .int .u8 0, .int .u8 0, .int .u8 0, .int .u8 0, .int .u8 0, .int .u8 0, .int .u8 0, .int .u8 0, .int .u8 0, .int .u8 0, .int .u8 49, .int .u8 48, .int .u8 51, .int .u8 50, .int .u8 51, .int .u8 50, .int .u8 0, .int .u8 0, .int .u8 0, .int .u8 0, .int .u8 0, .int .u8 0] 77 := by rw [h3]; exact (k.put 13 _).put 12 _
  replace hb0 : Below b w W3 := by rw [h3]; exact ((hb0.setCell (Nat.le_refl _) _).setCell (Nat.le_refl _) _).drew
  clear h3
  clear lk c0 f0 c1 f1 c2 f2 c3 f3 c4 f4 c5 f5 c6 f6 c7 f7 c8 f8 c9 f9 c10 f10 c11 f11 c12 f12 c13 f13 c14 f14 c15 f15 c16 f16 c17 f17
  have c0 := k.cell 0
  have f0 := k.free 0
  have c1 := k.cell 1
  have f1 := k.free 1
  have c2 := k.cell 2
  have f2 := k.free 2
  have c3 := k.cell 3
  have f3 := k.free 3
  have c4 := k.cell 4
  have f4 := k.free 4
  have c5 := k.cell 5
  have f5 := k.free 5
  have c6 := k.cell 6
  have f6 := k.free 6
  have c7 := k.cell 7
  have f7 := k.free 7
  have c8 := k.cell 8
  have f8 := k.free 8
  have c9 := k.cell 9
  have f9 := k.free 9
  have c10 := k.cell 10
  have f10 := k.free 10
  have c11 := k.cell 11
  have f11 := k.free 11
  have c12 := k.cell 12
  have f12 := k.free 12
  have c13 := k.cell 13
  have f13 := k.free 13
  have c14 := k.cell 14
  have f14 := k.free 14
  have c15 := k.cell 15
  have f15 := k.free 15
  have c16 := k.cell 16
  have f16 := k.free 16
  have c17 := k.cell 17
  have f17 := k.free 17
  have lk := k.lt
  simp only [List.getElem?_toArray, List.getElem?_cons_zero, List.getElem?_cons_succ] at c0 c1 c2 c3 c4 c5 c6 c7 c8 c9 c10 c11 c12 c13 c14 c15 c16 c17
  refine wp_region_G 12 [(0, 0), (0, 1), (0, 2), (2, 3), (2, 4), (2, 5), (0, 6), (0, 7), (0, 8), (2, 9), (2, 10), (0, 11), (3, 12), (2, 13), (3, 14)] (by kernel_rfl) (by kernel_rfl) (fun _ _ d _ _ => by cases d <;> exact Iff.rfl) ?_
  have hb : Below W3.heap.size W3 W3.drew := (Below.refl _ _).drew
  iterate 3
    refine wpG_take0 rfl rfl ?_
    go_big_quiet_step (rfl)
    refine wpQuiet_nil ?_
  iterate 3
    refine wpG_take2 rfl rfl ?_
    go_big_quiet_step (rfl)
    refine wpQuiet_nil ?_
  iterate 3
    refine wpG_take0 rfl rfl ?_
    go_big_quiet_step (rfl)
    refine wpQuiet_nil ?_
  iterate 2
    refine wpG_take2 rfl rfl ?_
    go_big_quiet_step (rfl)
    refine wpQuiet_nil ?_
  refine wpG_take0 rfl rfl ?_
  go_big_quiet_step (rfl)
  refine wpQuiet_nil ?_
  refine wpG_do3 rfl ?_
  intro K hK
  go_wp2_with (fail)
  refine hK.out _ _ ?_
  clear hK K
  refine wpG_take2 rfl rfl ?_
  go_big_quiet_step (rfl)
  refine wpQuiet_nil ?_
  refine wpG_do3 rfl ?_
  intro K hK
  go_wp2_with (fail)
  refine hK.out _ _ ?_
  clear hK K
  refine wpG_nil ?_
  clear hb
  go_wp2_with fail
  rw [rounds_succ]
  go_wp2_with fail
  refine name_world ?_
  intro W4 h4
  replace k : Blk W4 b #[.int .u8 0, .int .u8 0, .int .u8 0, .int .u8 0, .int .u8 0, .int .u8 0, .int .u8 0, .int .u8 0, .int .u8 0, .int .u8 0, .int .u8 49, .int .u8 57, .int .u8 49, .int .u8 48, .int .u8 51, .int .u8 50, .int .u8 51, .int .u8 50, .int .u8 0, .int .u8 0, .int .u8 0, .int .u8 0, .int .u8 0, .int .u8 0] 77 := by rw [h4]; exact (k.put 11 _).put 10 _
  replace hb0 : Below b w W4 := by rw [h4]; exact ((hb0.setCell (Nat.le_refl _) _).setCell (Nat.le_refl _) _).drew
  clear h4
  clear lk c0 f0 c1 f1 c2 f2 c3 f3 c4 f4 c5 f5 c6 f6 c7 f7 c8 f8 c9 f9 c10 f10 c11 f11 c12 f12 c13 f13 c14 f14 c15 f15 c16 f16 c17 f17
  have c0 := k.cell 0
  have f0 := k.free 0
  have c1 := k.cell 1
  have f1 := k.free 1
  have c2 := k.cell 2
  have f2 := k.free 2
  have c3 := k.cell 3
  have f3 := k.free 3
  have c4 := k.cell 4
  have f4 := k.free 4
  have c5 := k.cell 5
  have f5 := k.free 5
  have c6 := k.cell 6
  have f6 := k.free 6
  have c7 := k.cell 7
  have f7 := k.free 7
  have c8 := k.cell 8
  have f8 := k.free 8
  have c9 := k.cell 9
  have f9 := k.free 9
  have c10 := k.cell 10
  have f10 := k.free 10
  have c11 := k.cell 11
  have f11 := k.free 11
  have c12 := k.cell 12
  have f12 := k.free 12
  have c13 := k.cell 13
  have f13 := k.free 13
  have c14 := k.cell 14
  have f14 := k.free 14
  have c15 := k.cell 15
  have f15 := k.free 15
  have c16 := k.cell 16
  have f16 := k.free 16
  have c17 := k.cell 17
  have f17 := k.free 17
  have lk := k.lt
  simp only [List.getElem?_toArray, List.getElem?_cons_zero, List.getElem?_cons_succ] at c0 c1 c2 c3 c4 c5 c6 c7 c8 c9 c10 c11 c12 c13 c14 c15 c16 c17
  refine wp_region_G 12 [(0, 0), (0, 1), (0, 2), (2, 3), (2, 4), (2, 5), (0, 6), (0, 7), (0, 8), (2, 9), (2, 10), (0, 11), (3, 12), (2, 13), (3, 14)] (by kernel_rfl) (by kernel_rfl) (fun _ _ d _ _ => by cases d <;> exact Iff.rfl) ?_
  have hb : Below W4.heap.size W4 W4.drew := (Below.refl _ _).drew
  iterate 3
    refine wpG_take0 rfl rfl ?_
    go_big_quiet_step (rfl)
    refine wpQuiet_nil ?_
  iterate 3
    refine wpG_take2 rfl rfl ?_
    go_big_quiet_step (rfl)
    refine wpQuiet_nil ?_
  iterate 3
    refine wpG_take0 rfl rfl ?_
    go_big_quiet_step (rfl)
    refine wpQuiet_nil ?_
  iterate 2
    refine wpG_take2 rfl rfl ?_
    go_big_quiet_step (rfl)
    refine wpQuiet_nil ?_
  refine wpG_take0 rfl rfl ?_
  go_big_quiet_step (rfl)
  refine wpQuiet_nil ?_
  refine wpG_do3 rfl ?_
  intro K hK
  go_wp2_with (fail)
  refine hK.out _ _ ?_
  clear hK K
  refine wpG_take2 rfl rfl ?_
  go_big_quiet_step (rfl)
  refine wpQuiet_nil ?_
  refine wpG_do3 rfl ?_
  intro K hK
  go_wp2_with (fail)
  refine hK.out _ _ ?_
  clear hK K
  refine wpG_nil ?_
  clear hb
  go_wp2_with fail
  refine name_world ?_
  intro W5 h5
  replace k : Blk W5 b #[.int .u8 0, .int .u8 0, .int .u8 0, .int .u8 0, .int .u8 0, .int .u8 0, .int .u8 0, .int .u8 0, .int .u8 55, .int .u8 52, .int .u8 49, .int .u8 57, .int .u8 49, .int .u8 48, .int .u8 51, .int .u8 50, .int .u8 51, .int .u8 50, .int .u8 0, .int .u8 0, .int .u8 0, .int .u8 0, .int .u8 0, .int .u8 0] 77 := by rw [h5]; exact (k.put 9 _).put 8 _
  replace hb0 : Below b w W5 := by rw [h5]; exact ((hb0.setCell (Nat.le_refl _) _).setCell (Nat.le_refl _) _).drew
  clear h5
  clear lk c0 f0 c1 f1 c2 f2 c3 f3 c4 f4 c5 f5 c6 f6 c7 f7 c8 f8 c9 f9 c10 f10 c11 f11 c12 f12 c13 f13 c14 f14 c15 f15 c16 f16 c17 f17
  have c0 := k.cell 0
  have f0 := k.free 0
  have c1 := k.cell 1
  have f1 := k.free 1
  have c2 := k.cell 2
  have f2 := k.free 2
  have c3 := k.cell 3
  have f3 := k.free 3
  have c4 := k.cell 4
  have f4 := k.free 4
  have c5 := k.cell 5
  have f5 := k.free 5
  have c6 := k.cell 6
  have f6 := k.free 6
  have c7 := k.cell 7
  have f7 := k.free 7
  have c8 := k.cell 8
  have f8 := k.free 8
  have c9 := k.cell 9
  have f9 := k.free 9
  have c10 := k.cell 10
  have f10 := k.free 10
  have c11 := k.cell 11
  have f11 := k.free 11
  have c12 := k.cell 12
  have f12 := k.free 12
  have c13 := k.cell 13
  have f13 := k.free 13
  have c14 := k.cell 14
  have f14 := k.free 14
  have c15 := k.cell 15
  have f15 := k.free 15
  have c16 := k.cell 16
  have f16 := k.free 16
  have c17 := k.cell 17
  have f17 := k.free 17
  have lk := k.lt
  simp only [List.getElem?_toArray, List.getElem?_cons_zero, List.getElem?_cons_succ] at c0 c1 c2 c3 c4 c5 c6 c7 c8 c9 c10 c11 c12 c13 c14 c15 c16 c17
  refine wp_region_G 12 [(0, 0), (0, 1), (0, 2), (2, 3), (2, 4), (2, 5), (0, 6), (0, 7), (0, 8), (2, 9), (2, 10), (0, 11), (3, 12), (2, 13), (3, 14)] (by kernel_rfl) (by kernel_rfl) (fun _ _ d _ _ => by cases d <;> exact Iff.rfl) ?_
  have hb : Below W5.heap.size W5 W5.drew := (Below.refl _ _).drew
  iterate 3
    refine wpG_take0 rfl rfl ?_
    go_big_quiet_step (rfl)
    refine wpQuiet_nil ?_
  iterate 3
    refine wpG_take2 rfl rfl ?_
    go_big_quiet_step (rfl)
    refine wpQuiet_nil ?_
  iterate 3
    refine wpG_take0 rfl rfl ?_
    go_big_quiet_step (rfl)
    refine wpQuiet_nil ?_
  iterate 2
    refine wpG_take2 rfl rfl ?_
    go_big_quiet_step (rfl)
    refine wpQuiet_nil ?_
  refine wpG_take0 rfl rfl ?_
  go_big_quiet_step (rfl)
  refine wpQuiet_nil ?_
  refine wpG_do3 rfl ?_
  intro K hK
  go_wp2_with (fail)
  refine hK.out _ _ ?_
  clear hK K
  refine wpG_take2 rfl rfl ?_
  go_big_quiet_step (rfl)
  refine wpQuiet_nil ?_
  refine wpG_do3 rfl ?_
  intro K hK
  go_wp2_with (fail)
  refine hK.out _ _ ?_
  clear hK K
  refine wpG_nil ?_
  clear hb
  go_wp2_with fail
  refine name_world ?_
  intro W6 h6
  replace k : Blk W6 b #[.int .u8 0, .int .u8 0, .int .u8 0, .int .u8 0, .int .u8 0, .int .u8 0, .int .u8 49, .int .u8 52, .int .u8 55, .int .u8 52, .int .u8 49, .int .u8 57, .int .u8 49, .int .u8 48, .int .u8 51, .int .u8 50, .int .u8 51, .int .u8 50, .int .u8 0, .int .u8 0, .int .u8 0, .int .u8 0, .int .u8 0, .int .u8 0] 77 := by rw [h6]; exact (k.put 7 _).put 6 _
  replace hb0 : Below b w W6 := by rw [h6]; exact ((hb0.setCell (Nat.le_refl _) _).setCell (Nat.le_refl _) _).drew
  clear h6
  clear lk c0 f0 c1 f1 c2 f2 c3 f3 c4 f4 c5 f5 c6 f6 c7 f7 c8 f8 c9 f9 c10 f10 c11 f11 c12 f12 c13 f13 c14 f14 c15 f15 c16 f16 c17 f17
  have c0 := k.cell 0
  have f0 := k.free 0
  have c1 := k.cell 1
  have f1 := k.free 1
  have c2 := k.cell 2
  have f2 := k.free 2
  have c3 := k.cell 3
  have f3 := k.free 3
  have c4 := k.cell 4
  have f4 := k.free 4
  have c5 := k.cell 5
  have f5 := k.free 5
  have c6 := k.cell 6
  have f6 := k.free 6
  have c7 := k.cell 7
  have f7 := k.free 7
  have c8 := k.cell 8
  have f8 := k.free 8
  have c9 := k.cell 9
  have f9 := k.free 9
  have c10 := k.cell 10
  have f10 := k.free 10
  have c11 := k.cell 11
  have f11 := k.free 11
  have c12 := k.cell 12
  have f12 := k.free 12
  have c13 := k.cell 13
  have f13 := k.free 13
  have c14 := k.cell 14
  have f14 := k.free 14
  have c15 := k.cell 15
  have f15 := k.free 15
  have c16 := k.cell 16
  have f16 := k.free 16
  have c17 := k.cell 17
  have f17 := k.free 17
  have lk := k.lt
  simp only [List.getElem?_toArray, List.getElem?_cons_zero, List.getElem?_cons_succ] at c0 c1 c2 c3 c4 c5 c6 c7 c8 c9 c10 c11 c12 c13 c14 c15 c16 c17
  refine wp_region_G 12 [(0, 0), (0, 1), (0, 2), (2, 3), (2, 4), (2, 5), (0, 6), (0, 7), (0, 8), (2, 9), (2, 10), (0, 11), (3, 12), (2, 13), (3, 14)] (by kernel_rfl) (by kernel_rfl) (fun _ _ d _ _ => by cases d <;> exact Iff.rfl) ?_
  have hb : Below W6.heap.size W6 W6.drew := (Below.refl _ _).drew
  iterate 3
    refine wpG_take0 rfl rfl ?_
    go_big_quiet_step (rfl)
    refine wpQuiet_nil ?_
  iterate 3
    refine wpG_take2 rfl rfl ?_
    go_big_quiet_step (rfl)
    refine wpQuiet_nil ?_
  iterate 3
    refine wpG_take0 rfl rfl ?_
    go_big_quiet_step (rfl)
    refine wpQuiet_nil ?_
  iterate 2
    refine wpG_take2 rfl rfl ?_
    go_big_quiet_step (rfl)
    refine wpQuiet_nil ?_
  refine wpG_take0 rfl rfl ?_
  go_big_quiet_step (rfl)
  refine wpQuiet_nil ?_
  refine wpG_do3 rfl ?_
  intro K hK
  go_wp2_with (fail)
  refine hK.out _ _ ?_
  clear hK K
  refine wpG_take2 rfl rfl ?_
  go_big_quiet_step (rfl)
  refine wpQuiet_nil ?_
  refine wpG_do3 rfl ?_
  intro K hK
  go_wp2_with (fail)
  refine hK.out _ _ ?_
  clear hK K
  refine wpG_nil ?_
  clear hb
  go_wp2_with fail
  refine name_world ?_
  intro W7 h7
  replace k : Blk W7 b #[.int .u8 0, .int .u8 0, .int .u8 0, .int .u8 0, .int .u8 56, .int .u8 56, .int .u8 49, .int .u8 52, .int .u8 55, .int .u8 52, .int .u8 49, .int .u8 57, .int .u8 49, .int .u8 48, .int .u8 51, .int .u8 50, .int .u8 51, .int .u8 50, .int .u8 0, .int .u8 0, .int .u8 0, .int .u8 0, .int .u8 0, .int .u8 0] 77 := by rw [h7]; exact (k.put 5 _).put 4 _
  replace hb0 : Below b w W7 := by rw [h7]; exact ((hb0.setCell (Nat.le_refl _) _).setCell (Nat.le_refl _) _).drew
  clear h7
  clear lk c0 f0 c1 f1 c2 f2 c3 f3 c4 f4 c5 f5 c6 f6 c7 f7 c8 f8 c9 f9 c10 f10 c11 f11 c12 f12 c13 f13 c14 f14 c15 f15 c16 f16 c17 f17
  have c0 := k.cell 0
  have f0 := k.free 0
  have c1 := k.cell 1
  have f1 := k.free 1
  have c2 := k.cell 2
  have f2 := k.free 2
  have c3 := k.cell 3
  have f3 := k.free 3
  have c4 := k.cell 4
  have f4 := k.free 4
  have c5 := k.cell 5
  have f5 := k.free 5
  have c6 := k.cell 6
  have f6 := k.free 6
  have c7 := k.cell 7
  have f7 := k.free 7
  have c8 := k.cell 8
  have f8 := k.free 8
  have c9 := k.cell 9
  have f9 := k.free 9
  have c10 := k.cell 10
  have f10 := k.free 10
  have c11 := k.cell 11
  have f11 := k.free 11
  have c12 := k.cell 12
  have f12 := k.free 12
  have c13 := k.cell 13
  have f13 := k.free 13
  have c14 := k.cell 14
  have f14 := k.free 14
  have c15 := k.cell 15
  have f15 := k.free 15
  have c16 := k.cell 16
  have f16 := k.free 16
  have c17 := k.cell 17
  have f17 := k.free 17
  have lk := k.lt
  simp only [List.getElem?_toArray, List.getElem?_cons_zero, List.getElem?_cons_succ] at c0 c1 c2 c3 c4 c5 c6 c7 c8 c9 c10 c11 c12 c13 c14 c15 c16 c17
  refine wp_region_G 12 [(0, 0), (0, 1), (0, 2), (2, 3), (2, 4), (2, 5), (0, 6), (0, 7), (0, 8), (2, 9), (2, 10), (0, 11), (3, 12), (2, 13), (3, 14)] (by kernel_rfl) (by kernel_rfl) (fun _ _ d _ _ => by cases d <;> exact Iff.rfl) ?_
  have hb : Below W7.heap.size W7 W7.drew := (Below.refl _ _).drew
  iterate 3
    refine wpG_take0 rfl rfl ?_
    go_big_quiet_step (rfl)
    refine wpQuiet_nil ?_
  iterate 3
    refine wpG_take2 rfl rfl ?_
    go_big_quiet_step (rfl)
    refine wpQuiet_nil ?_
  iterate 3
    refine wpG_take0 rfl rfl ?_
    go_big_quiet_step (rfl)
    refine wpQuiet_nil ?_
  iterate 2
    refine wpG_take2 rfl rfl ?_
    go_big_quiet_step (rfl)
    refine wpQuiet_nil ?_
  refine wpG_take0 rfl rfl ?_
  go_big_quiet_step (rfl)
  refine wpQuiet_nil ?_
  refine wpG_do3 rfl ?_
  intro K hK
  go_wp2_with (fail)
  refine hK.out _ _ ?_
  clear hK K
  refine wpG_take2 rfl rfl ?_
  go_big_quiet_step (rfl)
  refine wpQuiet_nil ?_
  refine wpG_do3 rfl ?_
  intro K hK
  go_wp2_with (fail)
  refine hK.out _ _ ?_
  clear hK K
  refine wpG_nil ?_
  clear hb
  go_wp2_with fail
  rw [rounds_succ]
  go_wp2_with fail
  refine name_world ?_
  intro W8 h8
  replace k : Blk W8 b #[.int .u8 0, .int .u8 0, .int .u8 51, .int .u8 52, .int .u8 56, .int .u8 56, .int .u8 49, .int .u8 52, .int .u8 55, .int .u8 52, .int .u8 49, .int .u8 57, .int .u8 49, .int .u8 48, .int .u8 51, .int .u8 50, .int .u8 51, .int .u8 50, .int .u8 0, .int .u8 0, .int .u8 0, .int .u8 0, .int .u8 0, .int .u8 0] 77 := by rw [h8]; exact (k.put 3 _).put 2 _
  replace hb0 : Below b w W8 := by rw [h8]; exact ((hb0.setCell (Nat.le_refl _) _).setCell (Nat.le_refl _) _).drew
  clear h8
  clear lk c0 f0 c1 f1 c2 f2 c3 f3 c4 f4 c5 f5 c6 f6 c7 f7 c8 f8 c9 f9 c10 f10 c11 f11 c12 f12 c13 f13 c14 f14 c15 f15 c16 f16 c17 f17
  have c0 := k.cell 0
  have f0 := k.free 0
  have c1 := k.cell 1
  have f1 := k.free 1
  have c2 := k.cell 2
  have f2 := k.free 2
  have c3 := k.cell 3
  have f3 := k.free 3
  have c4 := k.cell 4
  have f4 := k.free 4
  have c5 := k.cell 5
  have f5 := k.free 5
  have c6 := k.cell 6
  have f6 := k.free 6
  have c7 := k.cell 7
  have f7 := k.free 7
  have c8 := k.cell 8
  have f8 := k.free 8
  have c9 := k.cell 9
  have f9 := k.free 9
  have c10 := k.cell 10
  have f10 := k.free 10
  have c11 := k.cell 11
  have f11 := k.free 11
  have c12 := k.cell 12
  have f12 := k.free 12
  have c13 := k.cell 13
  have f13 := k.free 13
  have c14 := k.cell 14
  have f14 := k.free 14
  have c15 := k.cell 15
  have f15 := k.free 15
  have c16 := k.cell 16
  have f16 := k.free 16
  have c17 := k.cell 17
  have f17 := k.free 17
  have lk := k.lt
  simp only [List.getElem?_toArray, List.getElem?_cons_zero, List.getElem?_cons_succ] at c0 c1 c2 c3 c4 c5 c6 c7 c8 c9 c10 c11 c12 c13 c14 c15 c16 c17
  refine wp_region_G 12 [(0, 0), (0, 1), (0, 2), (2, 3), (2, 4), (2, 5), (0, 6), (0, 7), (0, 8), (2, 9), (2, 10), (0, 11), (3, 12), (2, 13), (3, 14)] (by kernel_rfl) (by kernel_rfl) (fun _ _ d _ _ => by cases d <;> exact Iff.rfl) ?_
  have hb : Below W8.heap.size W8 W8.drew := (Below.refl _ _).drew
  iterate 3
    refine wpG_take0 rfl rfl ?_
    go_big_quiet_step (rfl)
    refine wpQuiet_nil ?_
  iterate 3
    refine wpG_take2 rfl rfl ?_
    go_big_quiet_step (rfl)
    refine wpQuiet_nil ?_
  iterate 3
    refine wpG_take0 rfl rfl ?_
    go_big_quiet_step (rfl)
    refine wpQuiet_nil ?_
  iterate 2
    refine wpG_take2 rfl rfl ?_
    go_big_quiet_step (rfl)
    refine wpQuiet_nil ?_
  refine wpG_take0 rfl rfl ?_
  go_big_quiet_step (rfl)
  refine wpQuiet_nil ?_
  refine wpG_do3 rfl ?_
  intro K hK
  go_wp2_with (fail)
  refine hK.out _ _ ?_
  clear hK K
  refine wpG_take2 rfl rfl ?_
  go_big_quiet_step (rfl)
  refine wpQuiet_nil ?_
  refine wpG_do3 rfl ?_
  intro K hK
  go_wp2_with (fail)
  refine hK.out _ _ ?_
  clear hK K
  refine wpG_nil ?_
  clear hb
  go_wp2_with fail
  refine post_world ?_
  intro W9 h9
  replace k : Blk W9 b #[.int .u8 56, .int .u8 57, .int .u8 51, .int .u8 52, .int .u8 56, .int .u8 56, .int .u8 49, .int .u8 52, .int .u8 55, .int .u8 52, .int .u8 49, .int .u8 57, .int .u8 49, .int .u8 48, .int .u8 51, .int .u8 50, .int .u8 51, .int .u8 50, .int .u8 0, .int .u8 0, .int .u8 0, .int .u8 0, .int .u8 0, .int .u8 0] 77 := by rw [h9]; exact (k.put 1 _).put 0 _
  replace hb0 : Below b w W9 := by rw [h9]; exact ((hb0.setCell (Nat.le_refl _) _).setCell (Nat.le_refl _) _).drew
  clear h9
  clear lk c0 f0 c1 f1 c2 f2 c3 f3 c4 f4 c5 f5 c6 f6 c7 f7 c8 f8 c9 f9 c10 f10 c11 f11 c12 f12 c13 f13 c14 f14 c15 f15 c16 f16 c17 f17
  simp [bodyPost, results, Tryd.results57, go_sem]
  exact ⟨k, hb0⟩
end Go.Proofs.YtcfiemeknocgjaaDoor
