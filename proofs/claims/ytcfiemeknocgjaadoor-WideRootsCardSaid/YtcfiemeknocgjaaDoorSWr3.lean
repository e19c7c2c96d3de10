/- My texts Fmt1, Fmt2, Fmt3, Fmt4, WdA, WdB, WdC, AwCD, WrL0, joined: what the last one needs of them. Conditions: as each lemma says. -/
import Derived.Test.YtcfiemeknocgjaaDoorSWr2
import Derived.KernelRfl
import Derived.StillTail
import Derived.OrdersHeld
import Derived.Deep.Quiet
import Derived.Below
import Derived.WalkKit
import Derived.Test.YtcfiemeknocgjaaDoorProg
import Derived.WalkSpells
import Derived.StillTactics
import Derived.Laws.Pointers
import Derived.Deep.RegionHeld3
import Derived.RowKit3
import Derived.Deep.QuietTactic
import Derived.BigQuiet
import Derived.BigRegion
import Derived.Lib.Hide
import Derived.WalkSmall
import Derived.Laws.BitsAllLaws
import Derived.Shelf.Bits.Mul64
import Derived.Laws.Bits64b
import Derived.Shelf.Lays
import Derived.Shelf.Small.Bits
import Derived.Laws.MathBits
import Derived.IntWalk
import Derived.Deep.OwnRows
import Derived.Lib.BitFns
import Derived.Lib.ItoaNum
import Derived.Deep.LoopGhost
import Derived.RowKit
import Derived.Laws.BytesArg
import Derived.ProofKit
import Derived.OpenShut
import Derived.ShutString
import Derived.ChangeOld
import Derived.Lib.SmallJoins
import Derived.Lib.LaidTab
import Derived.Laws.IdiomArrays
import Derived.LaidMore
import Derived.Stop.Joined
import Derived.Test.YtcfiemeknocgjaaDoorTie
import Derived.Test.YtcfiemeknocgjaaDoorCards
import Derived.SevenTiedAt
namespace Go.Proofs.YtcfiemeknocgjaaDoor
open Go.RowKit

set_option maxRecDepth 100000 in
set_option maxHeartbeats 1000000 in
theorem small36 (w : World) : Calls Tryd.prog 55 #[.int .i64 36] w fun e w' => e = .returned (.string ⟨#[51, 54]⟩) ∧ Below w.heap.size w w' := by
  go_enter Tryd.func55, Tryd.ntmps55
  go_wp2
  go_ret
  exact ⟨by kernel_rfl, Below.refl _ _⟩
set_option maxRecDepth 100000 in
set_option maxHeartbeats 1000000 in
theorem fmt36 (w : World) : Calls Tryd.prog 51 #[.int .u64 36, .int .i64 10] w fun e w' => e = .returned (.string ⟨#[51, 54]⟩) ∧ Below w.heap.size w w' := by
  go_enter Tryd.func51, Tryd.ntmps51
  go_wp2_with fail
  refine (small36 _).mono ?_
  rintro e w1 ⟨rfl, hn⟩
  go_wp2
  go_ret
  exact ⟨rfl, hn⟩
set_option maxRecDepth 100000 in
set_option maxHeartbeats 1000000 in
theorem len64_c (w : World) : Calls Tryd.prog 41 #[.int .u64 893488147419103232] w fun e w' => e = .returned (.int .i64 60) ∧ Below w.heap.size w w' := by
  go_enter Tryd.func41, Tryd.ntmps41
  go_wp2
  go_ret
  exact ⟨by kernel_rfl, Below.refl _ _⟩

/-- the table of the powers of ten -/
def Tab (w : World) : Prop := 0 < w.heap.size ∧ ∀ i, i < 20 → w.cell? ⟨0, i, none⟩ = some (.int .u64 (10 ^ i))
theorem Tab.of {w w' : World} (h : Tab w) (hb : Below w.heap.size w w') : Tab w' :=
  ⟨Nat.lt_of_lt_of_le h.1 hb.size, fun i hi => by
    have e := hb.block 0 h.1
    have g := h.2 i hi
    unfold World.cell? at g ⊢
    rw [e]; exact g⟩
set_option maxRecDepth 100000 in
set_option maxHeartbeats 1000000 in
theorem log18 (w : World) : Calls Tryd.prog 60 #[.int .i64 60] w fun e w' => e = .returned (.int .i64 18) ∧ Below w.heap.size w w' := by
  go_enter Tryd.func60, Tryd.ntmps60
  go_wp2
  go_ret
  exact ⟨by kernel_rfl, Below.refl _ _⟩
set_option maxRecDepth 100000 in
set_option maxHeartbeats 1000000 in
theorem bool2_any (b : Bool) (w : World) : Calls Tryd.prog 61 #[.bool b] w fun e w' => e = .returned (.int .i64 (bif b then 1 else 0)) ∧ Below w.heap.size w w' := by
  cases b
  all_goals
    go_enter Tryd.func61, Tryd.ntmps61
    go_wp2
    go_ret
    exact ⟨rfl, Below.refl _ _⟩
set_option maxRecDepth 100000 in
set_option maxHeartbeats 1000000 in
theorem nd_c (w : World) (hG : Tab w) : Calls Tryd.prog 56 #[.int .u64 893488147419103232] w fun e w' => e = .returned (.int .i64 18) ∧ Below w.heap.size w w' := by
  go_enter Tryd.func56, Tryd.ntmps56
  go_wp2_with fail
  refine (len64_c _).mono ?_
  rintro e w1 ⟨rfl, hn⟩
  have h1 := hG.of hn
  clear hG
  go_wp2_with fail
  refine (log18 _).mono ?_
  rintro e w2 ⟨rfl, hb⟩
  have h2 := h1.of hb
  replace hn := hn.trans (hb.mono hn.size)
  clear h1 hb
  have hc : w2.cell? ⟨0, 18, none⟩ = some (.int .u64 1000000000000000000) := h2.2 18 (by decide)
  go_wp2_with fail
  refine (bool2_any _ _).mono ?_
  rintro e w3 ⟨rfl, hb⟩
  replace hn := hn.trans (hb.mono hn.size)
  go_wp2
  go_ret
  exact ⟨rfl, hn⟩
set_option maxRecDepth 100000 in
set_option maxHeartbeats 4000000 in
theorem base10_c (b : Nat) (w : World) (k : Blk w b #[.int .u8 0, .int .u8 0, .int .u8 0, .int .u8 0, .int .u8 0, .int .u8 0, .int .u8 0, .int .u8 0, .int .u8 0, .int .u8 0, .int .u8 0, .int .u8 0, .int .u8 0, .int .u8 0, .int .u8 0, .int .u8 0, .int .u8 0, .int .u8 0, .int .u8 0, .int .u8 0, .int .u8 0, .int .u8 0, .int .u8 0, .int .u8 0] 77) :
    Calls Tryd.prog 57 #[.slice (some ⟨b, 0, none⟩) 18 24, .int .u64 893488147419103232] w fun e w' => e = .returned (.tuple #[]) ∧ Blk w' b #[.int .u8 56, .int .u8 57, .int .u8 51, .int .u8 52, .int .u8 56, .int .u8 56, .int .u8 49, .int .u8 52, .int .u8 55, .int .u8 52, .int .u8 49, .int .u8 57, .int .u8 49, .int .u8 48, .int .u8 51, .int .u8 50, .int .u8 51, .int .u8 50, .int .u8 0, .int .u8 0, .int .u8 0, .int .u8 0, .int .u8 0, .int .u8 0] 77 ∧ Below b w w' := by
  have c0 := k.cell 0
  have f0 := k.free 0
  have c1 := k.cell 1
  have f1 := k.free 1
  have c2 := k.cell 2
  have f2 := k.free 2
  have c3 := k.cell 3
  have f3 := k.free 3
  have c4 := k.cell 4
  have f4 := k.free 4
  have c5 := k.cell 5
  have f5 := k.free 5
  have c6 := k.cell 6
  have f6 := k.free 6
  have c7 := k.cell 7
  have f7 := k.free 7
  have c8 := k.cell 8
  have f8 := k.free 8
  have c9 := k.cell 9
  have f9 := k.free 9
  have c10 := k.cell 10
  have f10 := k.free 10
  have c11 := k.cell 11
  have f11 := k.free 11
  have c12 := k.cell 12
  have f12 := k.free 12
  have c13 := k.cell 13
  have f13 := k.free 13
  have c14 := k.cell 14
  have f14 := k.free 14
  have c15 := k.cell 15
  have f15 := k.free 15
  have c16 := k.cell 16
  have f16 := k.free 16
  have c17 := k.cell 17
  have f17 := k.free 17
  have lk := k.lt
  simp only [List.getElem?_toArray, List.getElem?_cons_zero, List.getElem?_cons_succ] at c0 c1 c2 c3 c4 c5 c6 c7 c8 c9 c10 c11 c12 c13 c14 c15 c16 c17
  -- MARK
  clear lk c0 f0 c1 f1 c2 f2 c3 f3 c4 f4 c5 f5 c6 f6 c7 f7 c8 f8 c9 f9 c10 f10 c11 f11 c12 f12 c13 f13 c14 f14 c15 f15 c16 f16 c17 f17
  have c0 := k.cell 0
  have f0 := k.free 0
  have c1 := k.cell 1
  have f1 := k.free 1
  have c2 := k.cell 2
  have f2 := k.free 2
  have c3 := k.cell 3
  have f3 := k.free 3
  have c4 := k.cell 4
  have f4 := k.free 4
  have c5 := k.cell 5
  have f5 := k.free 5
  have c6 := k.cell 6
  have f6 := k.free 6
  have c7 := k.cell 7
  have f7 := k.free 7
  have c8 := k.cell 8
  have f8 := k.free 8
  have c9 := k.cell 9
  have f9 := k.free 9
  have c10 := k.cell 10
  have f10 := k.free 10
  have c11 := k.cell 11
  have f11 := k.free 11
  have c12 := k.cell 12
  have f12 := k.free 12
  have c13 := k.cell 13
  have f13 := k.free 13
  have c14 := k.cell 14
  have f14 := k.free 14
  have c15 := k.cell 15
  have f15 := k.free 15
  have c16 := k.cell 16
  have f16 := k.free 16
  have c17 := k.cell 17
  have f17 := k.free 17
  have lk := k.lt
  simp only [List.getElem?_toArray, List.getElem?_cons_zero, List.getElem?_cons_succ] at c0 c1 c2 c3 c4 c5 c6 c7 c8 c9 c10 c11 c12 c13 c14 c15 c16 c17
  go_enter Tryd.func57, Tryd.ntmps57
  go_wp2_with fail
  refine wp_loop_rounds 3 ?_
  rw [rounds_succ]
  go_wp2_with fail
  have hb0 : Below b w w := Below.refl _ _
  refine wp_region_G 12 [(0, 0), (0, 1), (0, 2), (2, 3), (2, 4), (2, 5), (0, 6), (0, 7), (0, 8), (2, 9), (2, 10), (0, 11), (3, 12), (2, 13), (3, 14)] (by kernel_rfl) (by kernel_rfl) (fun _ _ d _ _ => by cases d <;> exact Iff.rfl) ?_
  have hb : Below w.heap.size w w.drew := (Below.refl _ _).drew
  iterate 3
    refine wpG_take0 rfl rfl ?_
    go_big_quiet_step (rfl)
    refine wpQuiet_nil ?_
  iterate 3
    refine wpG_take2 rfl rfl ?_
    go_big_quiet_step (rfl)
    refine wpQuiet_nil ?_
  iterate 3
    refine wpG_take0 rfl rfl ?_
    go_big_quiet_step (rfl)
    refine wpQuiet_nil ?_
  iterate 2
    refine wpG_take2 rfl rfl ?_
    go_big_quiet_step (rfl)
    refine wpQuiet_nil ?_
  refine wpG_take0 rfl rfl ?_
  go_big_quiet_step (rfl)
  refine wpQuiet_nil ?_
  refine wpG_do3 rfl ?_
  intro K hK
  go_wp2_with (fail)
  refine hK.out _ _ ?_
  clear hK K
  refine wpG_take2 rfl rfl ?_
  go_big_quiet_step (rfl)
  refine wpQuiet_nil ?_
  refine wpG_do3 rfl ?_
  intro K hK
  go_wp2_with (fail)
  refine hK.out _ _ ?_
  clear hK K
  refine wpG_nil ?_
  clear hb
  go_wp2_with fail
  refine name_world ?_
  intro W1 h1
  replace k : Blk W1 b #[.int .u8 0, .int .u8 0, .int .u8 0, .int .u8 0, .int .u8 0, .int .u8 0, .int .u8 0, .int .u8 0, .int .u8 0, .int .u8 0, .int .u8 0, .int .u8 0, .int .u8 0, .int .u8 0, .int .u8 0, .int .u8 0, .int .u8 51, .int .u8 50, .int .u8 0, .int .u8 0, .int .u8 0, .int .u8 0, .int .u8 0, .int .u8 0] 77 := by rw [h1]; exact (k.put 17 _).put 16 _
  replace hb0 : Below b w W1 := by rw [h1]; exact ((hb0.setCell (Nat.le_refl _) _).setCell (Nat.le_refl _) _).drew
  clear h1
  clear lk c0 f0 c1 f1 c2 f2 c3 f3 c4 f4 c5 f5 c6 f6 c7 f7 c8 f8 c9 f9 c10 f10 c11 f11 c12 f12 c13 f13 c14 f14 c15 f15 c16 f16 c17 f17
  have c0 := k.cell 0
  have f0 := k.free 0
  have c1 := k.cell 1
  have f1 := k.free 1
  have c2 := k.cell 2
  have f2 := k.free 2
  have c3 := k.cell 3
  have f3 := k.free 3
  have c4 := k.cell 4
  have f4 := k.free 4
  have c5 := k.cell 5
  have f5 := k.free 5
  have c6 := k.cell 6
  have f6 := k.free 6
  have c7 := k.cell 7
  have f7 := k.free 7
  have c8 := k.cell 8
  have f8 := k.free 8
  have c9 := k.cell 9
  have f9 := k.free 9
  have c10 := k.cell 10
  have f10 := k.free 10
  have c11 := k.cell 11
  have f11 := k.free 11
  have c12 := k.cell 12
  have f12 := k.free 12
  have c13 := k.cell 13
  have f13 := k.free 13
  have c14 := k.cell 14
  have f14 := k.free 14
  have c15 := k.cell 15
  have f15 := k.free 15
  have c16 := k.cell 16
  have f16 := k.free 16
  have c17 := k.cell 17
  have f17 := k.free 17
  have lk := k.lt
  simp only [List.getElem?_toArray, List.getElem?_cons_zero, List.getElem?_cons_succ] at c0 c1 c2 c3 c4 c5 c6 c7 c8 c9 c10 c11 c12 c13 c14 c15 c16 c17
  refine wp_region_G 12 [(0, 0), (0, 1), (0, 2), (2, 3), (2, 4), (2, 5), (0, 6), (0, 7), (0, 8), (2, 9), (2, 10), (0, 11), (3, 12), (2, 13), (3, 14)] (by kernel_rfl) (by kernel_rfl) (fun _ _ d _ _ => by cases d <;> exact Iff.rfl) ?_
  have hb : Below W1.heap.size W1 W1.drew := (Below.refl _ _).drew
  iterate 3
    refine wpG_take0 rfl rfl ?_
    go_big_quiet_step (rfl)
    refine wpQuiet_nil ?_
  iterate 3
    refine wpG_take2 rfl rfl ?_
    go_big_quiet_step (rfl)
    refine wpQuiet_nil ?_
  iterate 3
    refine wpG_take0 rfl rfl ?_
    go_big_quiet_step (rfl)
    refine wpQuiet_nil ?_
  iterate 2
    refine wpG_take2 rfl rfl ?_
    go_big_quiet_step (rfl)
    refine wpQuiet_nil ?_
  refine wpG_take0 rfl rfl ?_
  go_big_quiet_step (rfl)
  refine wpQuiet_nil ?_
  refine wpG_do3 rfl ?_
  intro K hK
  go_wp2_with (fail)
  refine hK.out _ _ ?_
  clear hK K
  refine wpG_take2 rfl rfl ?_
  go_big_quiet_step (rfl)
  refine wpQuiet_nil ?_
  refine wpG_do3 rfl ?_
  intro K hK
  go_wp2_with (fail)
  refine hK.out _ _ ?_
  clear hK K
  refine wpG_nil ?_
  clear hb
  go_wp2_with fail
  refine name_world ?_
  intro W2 h2
  replace k : Blk W2 b #[.int .u8 0, .int .u8 0, .int .u8 0, .int .u8 0, .int .u8 0, .int .u8 0, .int .u8 0, .int .u8 0, .int .u8 0, .int .u8 0, .int .u8 0, .int .u8 0, .int .u8 0, .int .u8 0, .int .u8 51, .int .u8 50, .int .u8 51, .int .u8 50, .int .u8 0, .int .u8 0, .int .u8 0, .int .u8 0, .int .u8 0, .int .u8 0] 77 := by rw [h2]; exact (k.put 15 _).put 14 _
  replace hb0 : Below b w W2 := by rw [h2]; exact ((hb0.setCell (Nat.le_refl _) _).setCell (Nat.le_refl _) _).drew
  clear h2
  clear lk c0 f0 c1 f1 c2 f2 c3 f3 c4 f4 c5 f5 c6 f6 c7 f7 c8 f8 c9 f9 c10 f10 c11 f11 c12 f12 c13 f13 c14 f14 c15 f15 c16 f16 c17 f17
  have c0 := k.cell 0
  have f0 := k.free 0
  have c1 := k.cell 1
  have f1 := k.free 1
  have c2 := k.cell 2
  have f2 := k.free 2
  have c3 := k.cell 3
  have f3 := k.free 3
  have c4 := k.cell 4
  have f4 := k.free 4
  have c5 := k.cell 5
  have f5 := k.free 5
  have c6 := k.cell 6
  have f6 := k.free 6
  have c7 := k.cell 7
  have f7 := k.free 7
  have c8 := k.cell 8
  have f8 := k.free 8
  have c9 := k.cell 9
  have f9 := k.free 9
  have c10 := k.cell 10
  have f10 := k.free 10
  have c11 := k.cell 11
  have f11 := k.free 11
  have c12 := k.cell 12
  have f12 := k.free 12
  have c13 := k.cell 13
  have f13 := k.free 13
  have c14 := k.cell 14
  have f14 := k.free 14
  have c15 := k.cell 15
  have f15 := k.free 15
  have c16 := k.cell 16
  have f16 := k.free 16
  have c17 := k.cell 17
  have f17 := k.free 17
  have lk := k.lt
  simp only [List.getElem?_toArray, List.getElem?_cons_zero, List.getElem?_cons_succ] at c0 c1 c2 c3 c4 c5 c6 c7 c8 c9 c10 c11 c12 c13 c14 c15 c16 c17
  refine wp_region_G 12 [(0, 0), (0, 1), (0, 2), (2, 3), (2, 4), (2, 5), (0, 6), (0, 7), (0, 8), (2, 9), (2, 10), (0, 11), (3, 12), (2, 13), (3, 14)] (by kernel_rfl) (by kernel_rfl) (fun _ _ d _ _ => by cases d <;> exact Iff.rfl) ?_
  have hb : Below W2.heap.size W2 W2.drew := (Below.refl _ _).drew
  iterate 3
    refine wpG_take0 rfl rfl ?_
    go_big_quiet_step (rfl)
    refine wpQuiet_nil ?_
  iterate 3
    refine wpG_take2 rfl rfl ?_
    go_big_quiet_step (rfl)
    refine wpQuiet_nil ?_
  iterate 3
    refine wpG_take0 rfl rfl ?_
    go_big_quiet_step (rfl)
    refine wpQuiet_nil ?_
  iterate 2
    refine wpG_take2 rfl rfl ?_
    go_big_quiet_step (rfl)
    refine wpQuiet_nil ?_
  refine wpG_take0 rfl rfl ?_
  go_big_quiet_step (rfl)
  refine wpQuiet_nil ?_
  refine wpG_do3 rfl ?_
  intro K hK
  go_wp2_with (fail)
  refine hK.out _ _ ?_
  clear hK K
  refine wpG_take2 rfl rfl ?_
  go_big_quiet_step (rfl)
  refine wpQuiet_nil ?_
  refine wpG_do3 rfl ?_
  intro K hK
  go_wp2_with (fail)
  refine hK.out _ _ ?_
  clear hK K
  refine wpG_nil ?_
  clear hb
  go_wp2_with fail
  refine name_world ?_
  intro W3 h3
  replace k : Blk W3 b #[.int .u8 0, .int .u8 0, .int .u8 0, .int .u8 0, .int .u8 0, .int .u8 0, .int .u8 0, .int .u8 0, .int .u8 0, .int .u8 0, .int .u8 0, .int .u8 0, .int .u8 49, .int .u8 48, .int .u8 51, .int .u8 50, .int .u8 51, .int .u8 50, .int .u8 0, .int .u8 0, .int .u8 0, .int .u8 0, .int .u8 0, .int .u8 0] 77 := by rw [h3]; exact (k.put 13 _).put 12 _
  replace hb0 : Below b w W3 := by rw [h3]; exact ((hb0.setCell (Nat.le_refl _) _).setCell (Nat.le_refl _) _).drew
  clear h3
  clear lk c0 f0 c1 f1 c2 f2 c3 f3 c4 f4 c5 f5 c6 f6 c7 f7 c8 f8 c9 f9 c10 f10 c11 f11 c12 f12 c13 f13 c14 f14 c15 f15 c16 f16 c17 f17
  have c0 := k.cell 0
  have f0 := k.free 0
  have c1 := k.cell 1
  have f1 := k.free 1
  have c2 := k.cell 2
  have f2 := k.free 2
  have c3 := k.cell 3
  have f3 := k.free 3
  have c4 := k.cell 4
  have f4 := k.free 4
  have c5 := k.cell 5
  have f5 := k.free 5
  have c6 := k.cell 6
  have f6 := k.free 6
  have c7 := k.cell 7
  have f7 := k.free 7
  have c8 := k.cell 8
  have f8 := k.free 8
  have c9 := k.cell 9
  have f9 := k.free 9
  have c10 := k.cell 10
  have f10 := k.free 10
  have c11 := k.cell 11
  have f11 := k.free 11
  have c12 := k.cell 12
  have f12 := k.free 12
  have c13 := k.cell 13
  have f13 := k.free 13
  have c14 := k.cell 14
  have f14 := k.free 14
  have c15 := k.cell 15
  have f15 := k.free 15
  have c16 := k.cell 16
  have f16 := k.free 16
  have c17 := k.cell 17
  have f17 := k.free 17
  have lk := k.lt
  simp only [List.getElem?_toArray, List.getElem?_cons_zero, List.getElem?_cons_succ] at c0 c1 c2 c3 c4 c5 c6 c7 c8 c9 c10 c11 c12 c13 c14 c15 c16 c17
  refine wp_region_G 12 [(0, 0), (0, 1), (0, 2), (2, 3), (2, 4), (2, 5), (0, 6), (0, 7), (0, 8), (2, 9), (2, 10), (0, 11), (3, 12), (2, 13), (3, 14)] (by kernel_rfl) (by kernel_rfl) (fun _ _ d _ _ => by cases d <;> exact Iff.rfl) ?_
  have hb : Below W3.heap.size W3 W3.drew := (Below.refl _ _).drew
  iterate 3
    refine wpG_take0 rfl rfl ?_
    go_big_quiet_step (rfl)
    refine wpQuiet_nil ?_
  iterate 3
    refine wpG_take2 rfl rfl ?_
    go_big_quiet_step (rfl)
    refine wpQuiet_nil ?_
  iterate 3
    refine wpG_take0 rfl rfl ?_
    go_big_quiet_step (rfl)
    refine wpQuiet_nil ?_
  iterate 2
    refine wpG_take2 rfl rfl ?_
    go_big_quiet_step (rfl)
    refine wpQuiet_nil ?_
  refine wpG_take0 rfl rfl ?_
  go_big_quiet_step (rfl)
  refine wpQuiet_nil ?_
  refine wpG_do3 rfl ?_
  intro K hK
  go_wp2_with (fail)
  refine hK.out _ _ ?_
  clear hK K
  refine wpG_take2 rfl rfl ?_
  go_big_quiet_step (rfl)
  refine wpQuiet_nil ?_
  refine wpG_do3 rfl ?_
  intro K hK
  go_wp2_with (fail)
  refine hK.out _ _ ?_
  clear hK K
  refine wpG_nil ?_
  clear hb
  go_wp2_with fail
  rw [rounds_succ]
  go_wp2_with fail
  refine name_world ?_
  intro W4 h4
  replace k : Blk W4 b #[.int .u8 0, .int .u8 0, .int .u8 0, .int .u8 0, .int .u8 0, .int .u8 0, .int .u8 0, .int .u8 0, .int .u8 0, .int .u8 0, .int .u8 49, .int .u8 57, .int .u8 49, .int .u8 48, .int .u8 51, .int .u8 50, .int .u8 51, .int .u8 50, .int .u8 0, .int .u8 0, .int .u8 0, .int .u8 0, .int .u8 0, .int .u8 0] 77 := by rw [h4]; exact (k.put 11 _).put 10 _
  replace hb0 : Below b w W4 := by rw [h4]; exact ((hb0.setCell (Nat.le_refl _) _).setCell (Nat.le_refl _) _).drew
  clear h4
  clear lk c0 f0 c1 f1 c2 f2 c3 f3 c4 f4 c5 f5 c6 f6 c7 f7 c8 f8 c9 f9 c10 f10 c11 f11 c12 f12 c13 f13 c14 f14 c15 f15 c16 f16 c17 f17
  have c0 := k.cell 0
  have f0 := k.free 0
  have c1 := k.cell 1
  have f1 := k.free 1
  have c2 := k.cell 2
  have f2 := k.free 2
  have c3 := k.cell 3
  have f3 := k.free 3
  have c4 := k.cell 4
  have f4 := k.free 4
  have c5 := k.cell 5
  have f5 := k.free 5
  have c6 := k.cell 6
  have f6 := k.free 6
  have c7 := k.cell 7
  have f7 := k.free 7
  have c8 := k.cell 8
  have f8 := k.free 8
  have c9 := k.cell 9
  have f9 := k.free 9
  have c10 := k.cell 10
  have f10 := k.free 10
  have c11 := k.cell 11
  have f11 := k.free 11
  have c12 := k.cell 12
  have f12 := k.free 12
  have c13 := k.cell 13
  have f13 := k.free 13
  have c14 := k.cell 14
  have f14 := k.free 14
  have c15 := k.cell 15
  have f15 := k.free 15
  have c16 := k.cell 16
  have f16 := k.free 16
  have c17 := k.cell 17
  have f17 := k.free 17
  have lk := k.lt
  simp only [List.getElem?_toArray, List.getElem?_cons_zero, List.getElem?_cons_succ] at c0 c1 c2 c3 c4 c5 c6 c7 c8 c9 c10 c11 c12 c13 c14 c15 c16 c17
  refine wp_region_G 12 [(0, 0), (0, 1), (0, 2), (2, 3), (2, 4), (2, 5), (0, 6), (0, 7), (0, 8), (2, 9), (2, 10), (0, 11), (3, 12), (2, 13), (3, 14)] (by kernel_rfl) (by kernel_rfl) (fun _ _ d _ _ => by cases d <;> exact Iff.rfl) ?_
  have hb : Below W4.heap.size W4 W4.drew := (Below.refl _ _).drew
  iterate 3
    refine wpG_take0 rfl rfl ?_
    go_big_quiet_step (rfl)
    refine wpQuiet_nil ?_
  iterate 3
    refine wpG_take2 rfl rfl ?_
    go_big_quiet_step (rfl)
    refine wpQuiet_nil ?_
  iterate 3
    refine wpG_take0 rfl rfl ?_
    go_big_quiet_step (rfl)
    refine wpQuiet_nil ?_
  iterate 2
    refine wpG_take2 rfl rfl ?_
    go_big_quiet_step (rfl)
    refine wpQuiet_nil ?_
  refine wpG_take0 rfl rfl ?_
  go_big_quiet_step (rfl)
  refine wpQuiet_nil ?_
  refine wpG_do3 rfl ?_
  intro K hK
  go_wp2_with (fail)
  refine hK.out _ _ ?_
  clear hK K
  refine wpG_take2 rfl rfl ?_
  go_big_quiet_step (rfl)
  refine wpQuiet_nil ?_
  refine wpG_do3 rfl ?_
  intro K hK
  go_wp2_with (fail)
  refine hK.out _ _ ?_
  clear hK K
  refine wpG_nil ?_
  clear hb
  go_wp2_with fail
  refine name_world ?_
  intro W5 h5
  replace k : Blk W5 b #[.int .u8 0, .int .u8 0, .int .u8 0, .int .u8 0, .int .u8 0, .int .u8 0, .int .u8 0, .int .u8 0, .int .u8 55, .int .u8 52, .int .u8 49, .int .u8 57, .int .u8 49, .int .u8 48, .int .u8 51, .int .u8 50, .int .u8 51, .int .u8 50, .int .u8 0, .int .u8 0, .int .u8 0, .int .u8 0, .int .u8 0, .int .u8 0] 77 := by rw [h5]; exact (k.put 9 _).put 8 _
  replace hb0 : Below b w W5 := by rw [h5]; exact ((hb0.setCell (Nat.le_refl _) _).setCell (Nat.le_refl _) _).drew
  clear h5
  clear lk c0 f0 c1 f1 c2 f2 c3 f3 c4 f4 c5 f5 c6 f6 c7 f7 c8 f8 c9 f9 c10 f10 c11 f11 c12 f12 c13 f13 c14 f14 c15 f15 c16 f16 c17 f17
  have c0 := k.cell 0
  have f0 := k.free 0
  have c1 := k.cell 1
  have f1 := k.free 1
  have c2 := k.cell 2
  have f2 := k.free 2
  have c3 := k.cell 3
  have f3 := k.free 3
  have c4 := k.cell 4
  have f4 := k.free 4
  have c5 := k.cell 5
  have f5 := k.free 5
  have c6 := k.cell 6
  have f6 := k.free 6
  have c7 := k.cell 7
  have f7 := k.free 7
  have c8 := k.cell 8
  have f8 := k.free 8
  have c9 := k.cell 9
  have f9 := k.free 9
  have c10 := k.cell 10
  have f10 := k.free 10
  have c11 := k.cell 11
  have f11 := k.free 11
  have c12 := k.cell 12
  have f12 := k.free 12
  have c13 := k.cell 13
  have f13 := k.free 13
  have c14 := k.cell 14
  have f14 := k.free 14
  have c15 := k.cell 15
  have f15 := k.free 15
  have c16 := k.cell 16
  have f16 := k.free 16
  have c17 := k.cell 17
  have f17 := k.free 17
  have lk := k.lt
  simp only [List.getElem?_toArray, List.getElem?_cons_zero, List.getElem?_cons_succ] at c0 c1 c2 c3 c4 c5 c6 c7 c8 c9 c10 c11 c12 c13 c14 c15 c16 c17
  refine wp_region_G 12 [(0, 0), (0, 1), (0, 2), (2, 3), (2, 4), (2, 5), (0, 6), (0, 7), (0, 8), (2, 9), (2, 10), (0, 11), (3, 12), (2, 13), (3, 14)] (by kernel_rfl) (by kernel_rfl) (fun _ _ d _ _ => by cases d <;> exact Iff.rfl) ?_
  have hb : Below W5.heap.size W5 W5.drew := (Below.refl _ _).drew
  iterate 3
    refine wpG_take0 rfl rfl ?_
    go_big_quiet_step (rfl)
    refine wpQuiet_nil ?_
  iterate 3
    refine wpG_take2 rfl rfl ?_
    go_big_quiet_step (rfl)
    refine wpQuiet_nil ?_
  iterate 3
    refine wpG_take0 rfl rfl ?_
    go_big_quiet_step (rfl)
    refine wpQuiet_nil ?_
  iterate 2
    refine wpG_take2 rfl rfl ?_
    go_big_quiet_step (rfl)
    refine wpQuiet_nil ?_
  refine wpG_take0 rfl rfl ?_
  go_big_quiet_step (rfl)
  refine wpQuiet_nil ?_
  refine wpG_do3 rfl ?_
  intro K hK
  go_wp2_with (fail)
  refine hK.out _ _ ?_
  clear hK K
  refine wpG_take2 rfl rfl ?_
  go_big_quiet_step (rfl)
  refine wpQuiet_nil ?_
  refine wpG_do3 rfl ?_
  intro K hK
  go_wp2_with (fail)
  refine hK.out _ _ ?_
  clear hK K
  refine wpG_nil ?_
  clear hb
  go_wp2_with fail
  refine name_world ?_
  intro W6 h6
  replace k : Blk W6 b #[.int .u8 0, .int .u8 0, .int .u8 0, .int .u8 0, .int .u8 0, .int .u8 0, .int .u8 49, .int .u8 52, .int .u8 55, .int .u8 52, .int .u8 49, .int .u8 57, .int .u8 49, .int .u8 48, .int .u8 51, .int .u8 50, .int .u8 51, .int .u8 50, .int .u8 0, .int .u8 0, .int .u8 0, .int .u8 0, .int .u8 0, .int .u8 0] 77 := by rw [h6]; exact (k.put 7 _).put 6 _
  replace hb0 : Below b w W6 := by rw [h6]; exact ((hb0.setCell (Nat.le_refl _) _).setCell (Nat.le_refl _) _).drew
  clear h6
  clear lk c0 f0 c1 f1 c2 f2 c3 f3 c4 f4 c5 f5 c6 f6 c7 f7 c8 f8 c9 f9 c10 f10 c11 f11 c12 f12 c13 f13 c14 f14 c15 f15 c16 f16 c17 f17
  have c0 := k.cell 0
  have f0 := k.free 0
  have c1 := k.cell 1
  have f1 := k.free 1
  have c2 := k.cell 2
  have f2 := k.free 2
  have c3 := k.cell 3
  have f3 := k.free 3
  have c4 := k.cell 4
  have f4 := k.free 4
  have c5 := k.cell 5
  have f5 := k.free 5
  have c6 := k.cell 6
  have f6 := k.free 6
  have c7 := k.cell 7
  have f7 := k.free 7
  have c8 := k.cell 8
  have f8 := k.free 8
  have c9 := k.cell 9
  have f9 := k.free 9
  have c10 := k.cell 10
  have f10 := k.free 10
  have c11 := k.cell 11
  have f11 := k.free 11
  have c12 := k.cell 12
  have f12 := k.free 12
  have c13 := k.cell 13
  have f13 := k.free 13
  have c14 := k.cell 14
  have f14 := k.free 14
  have c15 := k.cell 15
  have f15 := k.free 15
  have c16 := k.cell 16
  have f16 := k.free 16
  have c17 := k.cell 17
  have f17 := k.free 17
  have lk := k.lt
  simp only [List.getElem?_toArray, List.getElem?_cons_zero, List.getElem?_cons_succ] at c0 c1 c2 c3 c4 c5 c6 c7 c8 c9 c10 c11 c12 c13 c14 c15 c16 c17
  refine wp_region_G 12 [(0, 0), (0, 1), (0, 2), (2, 3), (2, 4), (2, 5), (0, 6), (0, 7), (0, 8), (2, 9), (2, 10), (0, 11), (3, 12), (2, 13), (3, 14)] (by kernel_rfl) (by kernel_rfl) (fun _ _ d _ _ => by cases d <;> exact Iff.rfl) ?_
  have hb : Below W6.heap.size W6 W6.drew := (Below.refl _ _).drew
  iterate 3
    refine wpG_take0 rfl rfl ?_
    go_big_quiet_step (rfl)
    refine wpQuiet_nil ?_
  iterate 3
    refine wpG_take2 rfl rfl ?_
    go_big_quiet_step (rfl)
    refine wpQuiet_nil ?_
  iterate 3
    refine wpG_take0 rfl rfl ?_
    go_big_quiet_step (rfl)
    refine wpQuiet_nil ?_
  iterate 2
    refine wpG_take2 rfl rfl ?_
    go_big_quiet_step (rfl)
    refine wpQuiet_nil ?_
  refine wpG_take0 rfl rfl ?_
  go_big_quiet_step (rfl)
  refine wpQuiet_nil ?_
  refine wpG_do3 rfl ?_
  intro K hK
  go_wp2_with (fail)
  refine hK.out _ _ ?_
  clear hK K
  refine wpG_take2 rfl rfl ?_
  go_big_quiet_step (rfl)
  refine wpQuiet_nil ?_
  refine wpG_do3 rfl ?_
  intro K hK
  go_wp2_with (fail)
  refine hK.out _ _ ?_
  clear hK K
  refine wpG_nil ?_
  clear hb
  go_wp2_with fail
  refine name_world ?_
  intro W7 h7
  replace k : Blk W7 b #[.int .u8 0, .int .u8 0, .int .u8 0, .int .u8 0, .int .u8 56, .int .u8 56, .int .u8 49, .int .u8 52, .int .u8 55, .int .u8 52, .int .u8 49, .int .u8 57, .int .u8 49, .int .u8 48, .int .u8 51, .int .u8 50, .int .u8 51, .int .u8 50, .int .u8 0, .int .u8 0, .int .u8 0, .int .u8 0, .int .u8 0, .int .u8 0] 77 := by rw [h7]; exact (k.put 5 _).put 4 _
  replace hb0 : Below b w W7 := by rw [h7]; exact ((hb0.setCell (Nat.le_refl _) _).setCell (Nat.le_refl _) _).drew
  clear h7
  clear lk c0 f0 c1 f1 c2 f2 c3 f3 c4 f4 c5 f5 c6 f6 c7 f7 c8 f8 c9 f9 c10 f10 c11 f11 c12 f12 c13 f13 c14 f14 c15 f15 c16 f16 c17 f17
  have c0 := k.cell 0
  have f0 := k.free 0
  have c1 := k.cell 1
  have f1 := k.free 1
  have c2 := k.cell 2
  have f2 := k.free 2
  have c3 := k.cell 3
  have f3 := k.free 3
  have c4 := k.cell 4
  have f4 := k.free 4
  have c5 := k.cell 5
  have f5 := k.free 5
  have c6 := k.cell 6
  have f6 := k.free 6
  have c7 := k.cell 7
  have f7 := k.free 7
  have c8 := k.cell 8
  have f8 := k.free 8
  have c9 := k.cell 9
  have f9 := k.free 9
  have c10 := k.cell 10
  have f10 := k.free 10
  have c11 := k.cell 11
  have f11 := k.free 11
  have c12 := k.cell 12
  have f12 := k.free 12
  have c13 := k.cell 13
  have f13 := k.free 13
  have c14 := k.cell 14
  have f14 := k.free 14
  have c15 := k.cell 15
  have f15 := k.free 15
  have c16 := k.cell 16
  have f16 := k.free 16
  have c17 := k.cell 17
  have f17 := k.free 17
  have lk := k.lt
  simp only [List.getElem?_toArray, List.getElem?_cons_zero, List.getElem?_cons_succ] at c0 c1 c2 c3 c4 c5 c6 c7 c8 c9 c10 c11 c12 c13 c14 c15 c16 c17
  refine wp_region_G 12 [(0, 0), (0, 1), (0, 2), (2, 3), (2, 4), (2, 5), (0, 6), (0, 7), (0, 8), (2, 9), (2, 10), (0, 11), (3, 12), (2, 13), (3, 14)] (by kernel_rfl) (by kernel_rfl) (fun _ _ d _ _ => by cases d <;> exact Iff.rfl) ?_
  have hb : Below W7.heap.size W7 W7.drew := (Below.refl _ _).drew
  iterate 3
    refine wpG_take0 rfl rfl ?_
    go_big_quiet_step (rfl)
    refine wpQuiet_nil ?_
  iterate 3
    refine wpG_take2 rfl rfl ?_
    go_big_quiet_step (rfl)
    refine wpQuiet_nil ?_
  iterate 3
    refine wpG_take0 rfl rfl ?_
    go_big_quiet_step (rfl)
    refine wpQuiet_nil ?_
  iterate 2
    refine wpG_take2 rfl rfl ?_
    go_big_quiet_step (rfl)
    refine wpQuiet_nil ?_
  refine wpG_take0 rfl rfl ?_
  go_big_quiet_step (rfl)
  refine wpQuiet_nil ?_
  refine wpG_do3 rfl ?_
  intro K hK
  go_wp2_with (fail)
  refine hK.out _ _ ?_
  clear hK K
  refine wpG_take2 rfl rfl ?_
  go_big_quiet_step (rfl)
  refine wpQuiet_nil ?_
  refine wpG_do3 rfl ?_
  intro K hK
  go_wp2_with (fail)
  refine hK.out _ _ ?_
  clear hK K
  refine wpG_nil ?_
  clear hb
  go_wp2_with fail
  rw [rounds_succ]
  go_wp2_with fail
  refine name_world ?_
  intro W8 h8
  replace k : Blk W8 b #[.int .u8 0, .int .u8 0, .int .u8 51, .int .u8 52, .int .u8 56, .int .u8 56, .int .u8 49, .int .u8 52, .int .u8 55, .int .u8 52, .int .u8 49, .int .u8 57, .int .u8 49, .int .u8 48, .int .u8 51, .int .u8 50, .int .u8 51, .int .u8 50, .int .u8 0, .int .u8 0, .int .u8 0, .int .u8 0, .int .u8 0, .int .u8 0] 77 := by rw [h8]; exact (k.put 3 _).put 2 _
  replace hb0 : Below b w W8 := by rw [h8]; exact ((hb0.setCell (Nat.le_refl _) _).setCell (Nat.le_refl _) _).drew
  clear h8
  clear lk c0 f0 c1 f1 c2 f2 c3 f3 c4 f4 c5 f5 c6 f6 c7 f7 c8 f8 c9 f9 c10 f10 c11 f11 c12 f12 c13 f13 c14 f14 c15 f15 c16 f16 c17 f17
  have c0 := k.cell 0
  have f0 := k.free 0
  have c1 := k.cell 1
  have f1 := k.free 1
  have c2 := k.cell 2
  have f2 := k.free 2
  have c3 := k.cell 3
  have f3 := k.free 3
  have c4 := k.cell 4
  have f4 := k.free 4
  have c5 := k.cell 5
  have f5 := k.free 5
  have c6 := k.cell 6
  have f6 := k.free 6
  have c7 := k.cell 7
  have f7 := k.free 7
  have c8 := k.cell 8
  have f8 := k.free 8
  have c9 := k.cell 9
  have f9 := k.free 9
  have c10 := k.cell 10
  have f10 := k.free 10
  have c11 := k.cell 11
  have f11 := k.free 11
  have c12 := k.cell 12
  have f12 := k.free 12
  have c13 := k.cell 13
  have f13 := k.free 13
  have c14 := k.cell 14
  have f14 := k.free 14
  have c15 := k.cell 15
  have f15 := k.free 15
  have c16 := k.cell 16
  have f16 := k.free 16
  have c17 := k.cell 17
  have f17 := k.free 17
  have lk := k.lt
  simp only [List.getElem?_toArray, List.getElem?_cons_zero, List.getElem?_cons_succ] at c0 c1 c2 c3 c4 c5 c6 c7 c8 c9 c10 c11 c12 c13 c14 c15 c16 c17
  refine wp_region_G 12 [(0, 0), (0, 1), (0, 2), (2, 3), (2, 4), (2, 5), (0, 6), (0, 7), (0, 8), (2, 9), (2, 10), (0, 11), (3, 12), (2, 13), (3, 14)] (by kernel_rfl) (by kernel_rfl) (fun _ _ d _ _ => by cases d <;> exact Iff.rfl) ?_
  have hb : Below W8.heap.size W8 W8.drew := (Below.refl _ _).drew
  iterate 3
    refine wpG_take0 rfl rfl ?_
    go_big_quiet_step (rfl)
    refine wpQuiet_nil ?_
  iterate 3
    refine wpG_take2 rfl rfl ?_
    go_big_quiet_step (rfl)
    refine wpQuiet_nil ?_
  iterate 3
    refine wpG_take0 rfl rfl ?_
    go_big_quiet_step (rfl)
    refine wpQuiet_nil ?_
  iterate 2
    refine wpG_take2 rfl rfl ?_
    go_big_quiet_step (rfl)
    refine wpQuiet_nil ?_
  refine wpG_take0 rfl rfl ?_
  go_big_quiet_step (rfl)
  refine wpQuiet_nil ?_
  refine wpG_do3 rfl ?_
  intro K hK
  go_wp2_with (fail)
  refine hK.out _ _ ?_
  clear hK K
  refine wpG_take2 rfl rfl ?_
  go_big_quiet_step (rfl)
  refine wpQuiet_nil ?_
  refine wpG_do3 rfl ?_
  intro K hK
  go_wp2_with (fail)
  refine hK.out _ _ ?_
  clear hK K
  refine wpG_nil ?_
  clear hb
  go_wp2_with fail
  refine post_world ?_
  intro W9 h9
  replace k : Blk W9 b #[.int .u8 56, .int .u8 57, .int .u8 51, .int .u8 52, .int .u8 56, .int .u8 56, .int .u8 49, .int .u8 52, .int .u8 55, .int .u8 52, .int .u8 49, .int .u8 57, .int .u8 49, .int .u8 48, .int .u8 51, .int .u8 50, .int .u8 51, .int .u8 50, .int .u8 0, .int .u8 0, .int .u8 0, .int .u8 0, .int .u8 0, .int .u8 0] 77 := by rw [h9]; exact (k.put 1 _).put 0 _
  replace hb0 : Below b w W9 := by rw [h9]; exact ((hb0.setCell (Nat.le_refl _) _).setCell (Nat.le_refl _) _).drew
  clear h9
  clear lk c0 f0 c1 f1 c2 f2 c3 f3 c4 f4 c5 f5 c6 f6 c7 f7 c8 f8 c9 f9 c10 f10 c11 f11 c12 f12 c13 f13 c14 f14 c15 f15 c16 f16 c17 f17
  simp [bodyPost, results, Tryd.results57, go_sem]
  exact ⟨k, hb0⟩
end Go.Proofs.YtcfiemeknocgjaaDoor

namespace Go.Proofs.YtcfiemeknocgjaaDoor
open Go.RowKit

set_option maxRecDepth 100000 in
set_option maxHeartbeats 1000000 in
theorem fmtC (w : World) (hG : Tab w) : Calls Tryd.prog 51 #[.int .u64 893488147419103232, .int .i64 10] w fun e w' => e = .returned (.string ⟨#[56, 57, 51, 52, 56, 56, 49, 52, 55, 52, 49, 57, 49, 48, 51, 50, 51, 50]⟩) ∧ Below w.heap.size w w' := by
  go_enter Tryd.func51, Tryd.ntmps51
  go_wp2_with fail
  refine calls_w ?_
  intro W hW
  have k : Blk W w.heap.size #[.int .u8 0, .int .u8 0, .int .u8 0, .int .u8 0, .int .u8 0, .int .u8 0, .int .u8 0, .int .u8 0, .int .u8 0, .int .u8 0, .int .u8 0, .int .u8 0, .int .u8 0, .int .u8 0, .int .u8 0, .int .u8 0, .int .u8 0, .int .u8 0, .int .u8 0, .int .u8 0, .int .u8 0, .int .u8 0, .int .u8 0, .int .u8 0] 77 := by rw [hW]; exact Blk.new _ _ _
  have hb0 : Below w.heap.size w W := by rw [hW]; exact below_a1 _ _
  clear hW
  refine (nd_c _ (hG.of hb0)).mono ?_
  rintro e u1 ⟨rfl, hn⟩
  replace k := k.of hn
  replace hb0 := hb0.trans (hn.mono hb0.size)
  clear hn
  go_wp2_with fail
  refine (base10_c w.heap.size _ k).mono ?_
  rintro e u2 ⟨rfl, k2, hn⟩
  replace hb0 := hb0.trans hn
  clear hn k
  have hcv := run_convert_bytes_arg (P := Tryd.prog) u2 79 5 Tryd.underlying79 Tryd.underlying5 w.heap.size 0 18 24 [56, 57, 51, 52, 56, 56, 49, 52, 55, 52, 49, 57, 49, 48, 51, 50, 51, 50] rfl (fun i hi => by
    rw [Nat.zero_add]
    match i, hi with
    | 0, _ => exact k2.cell 0
    | 1, _ => exact k2.cell 1
    | 2, _ => exact k2.cell 2
    | 3, _ => exact k2.cell 3
    | 4, _ => exact k2.cell 4
    | 5, _ => exact k2.cell 5
    | 6, _ => exact k2.cell 6
    | 7, _ => exact k2.cell 7
    | 8, _ => exact k2.cell 8
    | 9, _ => exact k2.cell 9
    | 10, _ => exact k2.cell 10
    | 11, _ => exact k2.cell 11
    | 12, _ => exact k2.cell 12
    | 13, _ => exact k2.cell 13
    | 14, _ => exact k2.cell 14
    | 15, _ => exact k2.cell 15
    | 16, _ => exact k2.cell 16
    | 17, _ => exact k2.cell 17
    | n + 18, h => omega) 9 Tryd.underlying9
  have lk := k2.lt
  clear k2
  go_wp2
  go_ret
  exact ⟨by kernel_rfl, hb0⟩
end Go.Proofs.YtcfiemeknocgjaaDoor

namespace Go.Proofs.YtcfiemeknocgjaaDoor
open Go.RowKit

/-- from a contract to its words -/
theorem lit_of {f : FuncId} {args args' : Array Value} {v v' : Value} {w : World} (h : Calls Tryd.prog f args w fun e w' => e = .returned v ∧ Below w.heap.size w w') (ha : args = args') (hv : v = v') :
    Calls Tryd.prog f args' w fun e w' => e = .returned v' ∧ Below w.heap.size w w' := by subst ha; subst hv; exact h
theorem sfmt36 (w : World) : Calls Tryd.prog 36 #[.int .u64 36, .int .i64 10] w fun e w' => e = .returned (.string ⟨#[51, 54]⟩) ∧ Below w.heap.size w w' := by
  go_enter Tryd.func36, Tryd.ntmps36
  go_wp2_with fail
  refine (fmt36 _).mono ?_
  rintro e w1 ⟨rfl, hn⟩
  go_wp2
  go_ret
  exact ⟨rfl, hn⟩
theorem sfmtC (w : World) (hG : Tab w) : Calls Tryd.prog 36 #[.int .u64 893488147419103232, .int .i64 10] w fun e w' => e = .returned (.string ⟨#[56, 57, 51, 52, 56, 56, 49, 52, 55, 52, 49, 57, 49, 48, 51, 50, 51, 50]⟩) ∧ Below w.heap.size w w' := by
  go_enter Tryd.func36, Tryd.ntmps36
  go_wp2_with fail
  refine (fmtC _ hG).mono ?_
  rintro e w1 ⟨rfl, hn⟩
  go_wp2
  go_ret
  exact ⟨rfl, hn⟩
theorem size_c (w : World) : Calls Tryd.prog 28 #[.agg #[.int .u64 0, .int .u64 18446744073709551614, .int .u64 18446744073709551615, .int .u64 18446744073709551615]] w fun e w' => e = .returned (.agg #[.int .u64 0, .int .u64 2, .int .u64 0, .int .u64 0]) ∧ Below w.heap.size w w' :=
  lit_of (size_any (-36893488147419103232) w) (by kernel_rfl) (by kernel_rfl)
theorem dvd1_c (w : World) : Calls Tryd.prog 29 #[.agg #[.int .u64 0, .int .u64 2, .int .u64 0, .int .u64 0], .agg #[.int .u64 1000000000000000000, .int .u64 0, .int .u64 0, .int .u64 0]] w fun e w' => e = .returned (.tuple #[.agg #[.int .u64 36, .int .u64 0, .int .u64 0, .int .u64 0], .agg #[.int .u64 893488147419103232, .int .u64 0, .int .u64 0, .int .u64 0]]) ∧ Below w.heap.size w w' :=
  lit_of (divided_any 36893488147419103232 1000000000000000000 w (by unfold b256; omega) (by unfold b256; omega)) (by kernel_rfl) (by kernel_rfl)
theorem dvd2_c (w : World) : Calls Tryd.prog 29 #[.agg #[.int .u64 36, .int .u64 0, .int .u64 0, .int .u64 0], .agg #[.int .u64 1000000000000000000, .int .u64 0, .int .u64 0, .int .u64 0]] w fun e w' => e = .returned (.tuple #[.agg #[.int .u64 0, .int .u64 0, .int .u64 0, .int .u64 0], .agg #[.int .u64 36, .int .u64 0, .int .u64 0, .int .u64 0]]) ∧ Below w.heap.size w w' :=
  lit_of (divided_any 36 1000000000000000000 w (by unfold b256; omega) (by unfold b256; omega)) (by kernel_rfl) (by kernel_rfl)
theorem neg_c (w : World) : Calls Tryd.prog 33 #[.agg #[.int .u64 0, .int .u64 18446744073709551614, .int .u64 18446744073709551615, .int .u64 18446744073709551615]] w fun e w' => e = .returned (.bool true) ∧ Below w.heap.size w w' :=
  lit_of (negative_any (-36893488147419103232) w) (by kernel_rfl) (by kernel_rfl)
theorem of_m7 (w : World) : Calls Tryd.prog 31 #[.int .i64 (-7)] w fun e w' => e = .returned (.agg #[.int .u64 18446744073709551609, .int .u64 18446744073709551615, .int .u64 18446744073709551615, .int .u64 18446744073709551615]) ∧ Below w.heap.size w w' :=
  lit_of (Of_any (-7) w (by unfold In64; omega)) (by kernel_rfl) (by kernel_rfl)
theorem of_2 (w : World) : Calls Tryd.prog 31 #[.int .i64 2] w fun e w' => e = .returned (.agg #[.int .u64 2, .int .u64 0, .int .u64 0, .int .u64 0]) ∧ Below w.heap.size w w' :=
  lit_of (Of_any (2) w (by unfold In64; omega)) (by kernel_rfl) (by kernel_rfl)
theorem of_62 (w : World) : Calls Tryd.prog 31 #[.int .i64 4611686018427387904] w fun e w' => e = .returned (.agg #[.int .u64 4611686018427387904, .int .u64 0, .int .u64 0, .int .u64 0]) ∧ Below w.heap.size w w' :=
  lit_of (Of_any (4611686018427387904) w (by unfold In64; omega)) (by kernel_rfl) (by kernel_rfl)
theorem of_m8 (w : World) : Calls Tryd.prog 31 #[.int .i64 (-8)] w fun e w' => e = .returned (.agg #[.int .u64 18446744073709551608, .int .u64 18446744073709551615, .int .u64 18446744073709551615, .int .u64 18446744073709551615]) ∧ Below w.heap.size w w' :=
  lit_of (Of_any (-8) w (by unfold In64; omega)) (by kernel_rfl) (by kernel_rfl)
theorem of_m4 (w : World) : Calls Tryd.prog 31 #[.int .i64 (-4)] w fun e w' => e = .returned (.agg #[.int .u64 18446744073709551612, .int .u64 18446744073709551615, .int .u64 18446744073709551615, .int .u64 18446744073709551615]) ∧ Below w.heap.size w w' :=
  lit_of (Of_any (-4) w (by unfold In64; omega)) (by kernel_rfl) (by kernel_rfl)
theorem of_1 (w : World) : Calls Tryd.prog 31 #[.int .i64 1] w fun e w' => e = .returned (.agg #[.int .u64 1, .int .u64 0, .int .u64 0, .int .u64 0]) ∧ Below w.heap.size w w' :=
  lit_of (Of_any (1) w (by unfold In64; omega)) (by kernel_rfl) (by kernel_rfl)
theorem div_c (w : World) : Calls Tryd.prog 9 #[.agg #[.int .u64 18446744073709551609, .int .u64 18446744073709551615, .int .u64 18446744073709551615, .int .u64 18446744073709551615], .agg #[.int .u64 2, .int .u64 0, .int .u64 0, .int .u64 0]] w fun e w' => e = .returned (.tuple #[.agg #[.int .u64 18446744073709551612, .int .u64 18446744073709551615, .int .u64 18446744073709551615, .int .u64 18446744073709551615], .agg #[.int .u64 1, .int .u64 0, .int .u64 0, .int .u64 0], .bool true]) ∧ Below w.heap.size w w' :=
  lit_of (Div_any (-7) 2 w (by unfold InI b255; omega) (by unfold InI b255; omega)) (by kernel_rfl) (by kernel_rfl)
theorem mul_c (w : World) : Calls Tryd.prog 32 #[.agg #[.int .u64 4611686018427387904, .int .u64 0, .int .u64 0, .int .u64 0], .agg #[.int .u64 18446744073709551608, .int .u64 18446744073709551615, .int .u64 18446744073709551615, .int .u64 18446744073709551615]] w fun e w' => e = .returned (.tuple #[.agg #[.int .u64 0, .int .u64 18446744073709551614, .int .u64 18446744073709551615, .int .u64 18446744073709551615], .bool true]) ∧ Below w.heap.size w w' :=
  lit_of (Mul_ok 4611686018427387904 (-8) w (by unfold InI b255; omega) (by unfold InI b255; omega)) (by kernel_rfl) (by kernel_rfl)
theorem sign_c (w : World) : Calls Tryd.prog 10 #[.agg #[.int .u64 0, .int .u64 18446744073709551614, .int .u64 18446744073709551615, .int .u64 18446744073709551615]] w fun e w' => e = .returned (.int .i64 (-1)) ∧ Below w.heap.size w w' :=
  lit_of (Sign_any (-36893488147419103232) w (by unfold InI b255; omega)) (by kernel_rfl) (by kernel_rfl)

set_option maxRecDepth 100000 in
set_option maxHeartbeats 2000000 in
theorem text_c (w : World) (hG : Tab w) : Calls Tryd.prog 12 #[.agg #[.int .u64 0, .int .u64 18446744073709551614, .int .u64 18446744073709551615, .int .u64 18446744073709551615]] w fun e w' => e = .returned (.string ⟨#[45, 51, 54, 56, 57, 51, 52, 56, 56, 49, 52, 55, 52, 49, 57, 49, 48, 51, 50, 51, 50]⟩) ∧ Below w.heap.size w w' := by
  go_enter Tryd.func12, Tryd.ntmps12
  go_wp2_with fail
  refine calls_w ?_
  intro W hW
  have kp : Blk W w.heap.size #[.int .u64 0, .int .u64 18446744073709551614, .int .u64 18446744073709551615, .int .u64 18446744073709551615] 24 := by rw [hW]; exact Blk.new _ _ _
  have hb0 : Below w.heap.size w W := by rw [hW]; exact below_a1 _ _
  clear hW
  refine (size_c _).mono ?_
  rintro e u1 ⟨rfl, hn⟩
  replace kp := kp.of hn
  replace hb0 := hb0.trans (hn.mono hb0.size)
  clear hn
  go_wp2_with fail
  refine name_world ?_
  intro W2 hW2
  have kx : Blk W2 u1.heap.size #[.int .u64 0, .int .u64 2, .int .u64 0, .int .u64 0] 24 := by rw [hW2]; exact Blk.new _ _ _
  have hn : Below u1.heap.size u1 W2 := by rw [hW2]; exact below_a1 _ _
  clear hW2
  have hlx : w.heap.size < u1.heap.size := kp.lt
  replace kp := kp.of hn
  replace hb0 := hb0.trans (hn.mono hb0.size)
  clear hn
  refine wp_loop_rounds 3 ?_
  rw [rounds_succ]
  have cx0 := kx.cell 0
  have cx1 := kx.cell 1
  have cx2 := kx.cell 2
  have cx3 := kx.cell 3
  have lx := kx.lt
  simp only [List.getElem?_toArray, List.getElem?_cons_zero, List.getElem?_cons_succ] at cx0 cx1 cx2 cx3
  go_wp2_with fail
  clear lx cx0 cx1 cx2 cx3
  refine (dvd1_c _).mono ?_
  rintro e u2 ⟨rfl, hn⟩
  replace kp := kp.of hn
  replace kx := kx.of hn
  replace hb0 := hb0.trans (hn.mono hb0.size)
  clear hn
  go_wp2_with fail
  refine calls_w ?_
  intro W3 hW3
  have kq : Blk W3 u2.heap.size #[.int .u64 36, .int .u64 0, .int .u64 0, .int .u64 0] 24 := by rw [hW3]; exact (Blk.new _ _ _).alloc _
  have hn : Below u2.heap.size u2 W3 := by rw [hW3]; exact below_a2 _ _ _
  clear hW3
  have hlq : u1.heap.size < u2.heap.size := kx.lt
  replace kp := kp.of hn
  replace kx := kx.of hn
  replace hb0 := hb0.trans (hn.mono hb0.size)
  clear hn
  refine (sfmtC _ (hG.of hb0)).mono ?_
  rintro e u3 ⟨rfl, hn⟩
  replace kp := kp.of hn
  replace kx := kx.of hn
  replace kq := kq.of hn
  replace hb0 := hb0.trans (hn.mono hb0.size)
  clear hn
  have cq0 := kq.cell 0
  have cq1 := kq.cell 1
  have cq2 := kq.cell 2
  have cq3 := kq.cell 3
  have lq := kq.lt
  simp only [List.getElem?_toArray, List.getElem?_cons_zero, List.getElem?_cons_succ] at cq0 cq1 cq2 cq3
  go_wp2_with fail
  refine wp_loop_rounds 1 ?_
  rw [rounds_succ]
  go_wp2_with fail
  have cx0 := kx.cell 0
  have fx0 := kx.free 0
  have cx1 := kx.cell 1
  have fx1 := kx.free 1
  have cx2 := kx.cell 2
  have fx2 := kx.free 2
  have cx3 := kx.cell 3
  have fx3 := kx.free 3
  have lx := kx.lt
  simp only [List.getElem?_toArray, List.getElem?_cons_zero, List.getElem?_cons_succ] at cx0 cx1 cx2 cx3
  have HQ := Lib.hid kq
  have HX := Lib.hid kx
  have HP := Lib.hid kp
  clear kq kx kp
  refine wp_region_up u3.heap.size 5 [(true, 0), (true, 1), (true, 2), (true, 3), (true, 4)] (by kernel_rfl) (by kernel_rfl) (fun _ _ d _ _ h => by cases d <;> exact h) ?_
  have hb : Below u3.heap.size u3 u3.drew := (Below.refl _ _).drew
  iterate 5
    refine wpS_takeL rfl rfl ?_
    go_big_quiet_step (rfl)
    refine wpQuiet_nil ?_
  refine wpS_nil ?_
  simp only [List.drop_succ_cons, List.drop_zero]
  have hb3 := hb0
  clear hb0
  have kx := HX.out
  have kp := HP.out
  clear hb HQ HX HP
  clear lq cq0 cq1 cq2 cq3
  go_wp2_with fail
  rw [rounds_succ]
  refine name_world ?_
  intro W4 hW4
  clear lx cx0 fx0 cx1 fx1 cx2 fx2 cx3 fx3
  replace kx : Blk W4 u1.heap.size #[.int .u64 36, .int .u64 0, .int .u64 0, .int .u64 0] 24 := by rw [hW4]; exact (((kx.put 0 _).put 1 _).put 2 _).put 3 _
  have hn : Below u1.heap.size u3 W4 := by rw [hW4]; exact (below_set4 (Below.refl _ _) (Nat.le_refl _) _ _ _ _).drew
  replace kp := kp.below hn hlx
  replace hb0 := (show Below w.heap.size w u3 from hb3).trans (hn.mono (Nat.le_of_lt hlx))
  clear hn hW4
  have cx0 := kx.cell 0
  have cx1 := kx.cell 1
  have cx2 := kx.cell 2
  have cx3 := kx.cell 3
  have lx := kx.lt
  simp only [List.getElem?_toArray, List.getElem?_cons_zero, List.getElem?_cons_succ] at cx0 cx1 cx2 cx3
  go_wp2_with fail
  clear lx cx0 cx1 cx2 cx3
  refine (dvd2_c _).mono ?_
  rintro e v2 ⟨rfl, hn⟩
  replace kp := kp.of hn
  replace hb0 := hb0.trans (hn.mono hb0.size)
  clear hn kx
  go_wp2_with fail
  refine calls_w ?_
  intro W5 hW5
  have kq : Blk W5 v2.heap.size #[.int .u64 0, .int .u64 0, .int .u64 0, .int .u64 0] 24 := by rw [hW5]; exact (Blk.new _ _ _).alloc _
  have hn : Below v2.heap.size v2 W5 := by rw [hW5]; exact below_a2 _ _ _
  clear hW5
  replace kp := kp.of hn
  replace hb0 := hb0.trans (hn.mono hb0.size)
  clear hn
  refine (sfmt36 _).mono ?_
  rintro e v3 ⟨rfl, hn⟩
  replace kp := kp.of hn
  replace kq := kq.of hn
  replace hb0 := hb0.trans (hn.mono hb0.size)
  clear hn
  have cq0 := kq.cell 0
  have cq1 := kq.cell 1
  have cq2 := kq.cell 2
  have cq3 := kq.cell 3
  have lq := kq.lt
  simp only [List.getElem?_toArray, List.getElem?_cons_zero, List.getElem?_cons_succ] at cq0 cq1 cq2 cq3
  have cp0 := kp.cell 0
  have cp1 := kp.cell 1
  have cp2 := kp.cell 2
  have cp3 := kp.cell 3
  have lp := kp.lt
  simp only [List.getElem?_toArray, List.getElem?_cons_zero, List.getElem?_cons_succ] at cp0 cp1 cp2 cp3
  go_wp2_with fail
  clear lq cq0 cq1 cq2 cq3
  clear lp cp0 cp1 cp2 cp3
  refine (neg_c _).mono ?_
  rintro e v4 ⟨rfl, hn⟩
  replace hb0 := hb0.trans (hn.mono hb0.size)
  clear hn kp kq
  go_wp2
  go_ret
  exact ⟨by kernel_rfl, hb0⟩
end Go.Proofs.YtcfiemeknocgjaaDoor

namespace Go.Proofs.YtcfiemeknocgjaaDoor
open Go.RowKit

set_option maxRecDepth 100000 in
set_option maxHeartbeats 2000000 in
theorem wawake_any (w : World) (hG : Tab w) : Calls Tryd.prog 8 #[] w fun e w' => e = .returned (.bool true) ∧ Below w.heap.size w w' := by
  go_enter Tryd.func8, Tryd.ntmps8
  go_wp2_with fail
  have hb0 : Below w.heap.size w w := Below.refl _ _
  refine (of_m7 _).mono ?_
  rintro e u1 ⟨rfl, hn⟩
  replace hb0 := hb0.trans (hn.mono hb0.size)
  clear hn
  go_wp2_with fail
  refine (of_2 _).mono ?_
  rintro e u2 ⟨rfl, hn⟩
  replace hb0 := hb0.trans (hn.mono hb0.size)
  clear hn
  go_wp2_with fail
  refine (div_c _).mono ?_
  rintro e u3 ⟨rfl, hn⟩
  replace hb0 := hb0.trans (hn.mono hb0.size)
  clear hn
  go_wp2_with fail
  refine calls_w ?_
  intro W hW
  have kq : Blk W u3.heap.size #[.int .u64 18446744073709551612, .int .u64 18446744073709551615, .int .u64 18446744073709551615, .int .u64 18446744073709551615] 24 := by rw [hW]; exact (Blk.new _ _ _).alloc _
  have kr : Blk W (u3.heap.size + 1) #[.int .u64 1, .int .u64 0, .int .u64 0, .int .u64 0] 24 := by rw [hW]; exact Blk.new1 _ _ _ _
  have hn : Below u3.heap.size u3 W := by rw [hW]; exact below_a2 _ _ _
  replace hb0 := hb0.trans (hn.mono hb0.size)
  clear hn hW
  refine (of_62 _).mono ?_
  rintro e u4 ⟨rfl, hn⟩
  replace kq := kq.of hn
  replace kr := kr.of hn
  replace hb0 := hb0.trans (hn.mono hb0.size)
  clear hn
  go_wp2_with fail
  refine (of_m8 _).mono ?_
  rintro e u5 ⟨rfl, hn⟩
  replace kq := kq.of hn
  replace kr := kr.of hn
  replace hb0 := hb0.trans (hn.mono hb0.size)
  clear hn
  go_wp2_with fail
  refine (mul_c _).mono ?_
  rintro e u6 ⟨rfl, hn⟩
  replace kq := kq.of hn
  replace kr := kr.of hn
  replace hb0 := hb0.trans (hn.mono hb0.size)
  clear hn
  have cq0 := kq.cell 0
  have cq1 := kq.cell 1
  have cq2 := kq.cell 2
  have cq3 := kq.cell 3
  have lq := kq.lt
  simp only [List.getElem?_toArray, List.getElem?_cons_zero, List.getElem?_cons_succ] at cq0 cq1 cq2 cq3
  go_wp2_with fail
  refine name_world ?_
  intro V hV
  have kp : Blk V u6.heap.size #[.int .u64 0, .int .u64 18446744073709551614, .int .u64 18446744073709551615, .int .u64 18446744073709551615] 24 := by rw [hV]; exact Blk.new _ _ _
  have hn : Below u6.heap.size u6 V := by rw [hV]; exact below_a1 _ _
  replace kq := kq.of hn
  replace kr := kr.of hn
  replace hb0 := hb0.trans (hn.mono hb0.size)
  clear hn hV
  clear lq cq0 cq1 cq2 cq3
  have cq0 := kq.cell 0
  have cq1 := kq.cell 1
  have cq2 := kq.cell 2
  have cq3 := kq.cell 3
  have lq := kq.lt
  simp only [List.getElem?_toArray, List.getElem?_cons_zero, List.getElem?_cons_succ] at cq0 cq1 cq2 cq3
  have cr0 := kr.cell 0
  have cr1 := kr.cell 1
  have cr2 := kr.cell 2
  have cr3 := kr.cell 3
  have lr := kr.lt
  simp only [List.getElem?_toArray, List.getElem?_cons_zero, List.getElem?_cons_succ] at cr0 cr1 cr2 cr3
  have cp0 := kp.cell 0
  have cp1 := kp.cell 1
  have cp2 := kp.cell 2
  have cp3 := kp.cell 3
  have lp := kp.lt
  simp only [List.getElem?_toArray, List.getElem?_cons_zero, List.getElem?_cons_succ] at cp0 cp1 cp2 cp3
  have e4 : eq4 18446744073709551612 18446744073709551615 18446744073709551615 18446744073709551615 18446744073709551612 18446744073709551615 18446744073709551615 18446744073709551615 = true := by kernel_rfl
  have e1 : eq4 1 0 0 0 1 0 0 0 = true := by kernel_rfl
  have HP := Lib.hid kp
  clear kq kr kp
  refine wp_region_up V.heap.size 9 [(true, 0), (true, 1), (true, 2), (false, 3), (true, 4), (true, 5), (true, 6), (true, 7), (false, 8)] (by kernel_rfl) (by kernel_rfl) (fun _ _ d _ _ h => by cases d <;> exact h) ?_
  have hb : Below V.heap.size V V.drew := (Below.refl _ _).drew
  iterate 3
    refine wpS_takeL rfl rfl ?_
    go_big_quiet_step (rfl)
    refine wpQuiet_nil ?_
  refine wpS_doL rfl ?_
  intro K hK
  go_wp2_with ((first | (go_at_call 31; (with_reducible refine (of_m4 _).mono ?_); rintro e w2 ⟨rfl, hn⟩) | (go_at_call 31; (with_reducible refine (of_1 _).mono ?_); rintro e w2 ⟨rfl, hn⟩)))
  try replace hb := hb.trans (hn.mono hb.size)
  refine hK.out _ _ (up_iff.2 hb) ?_
  clear hK K
  try clear hn
  iterate 4
    refine wpS_takeL rfl rfl ?_
    go_big_quiet_step (rfl)
    refine wpQuiet_nil ?_
  refine wpS_doL rfl ?_
  intro K hK
  go_wp2_with ((first | (go_at_call 31; (with_reducible refine (of_m4 _).mono ?_); rintro e w2 ⟨rfl, hn⟩) | (go_at_call 31; (with_reducible refine (of_1 _).mono ?_); rintro e w2 ⟨rfl, hn⟩)))
  try replace hb := hb.trans (hn.mono hb.size)
  refine hK.out _ _ (up_iff.2 hb) ?_
  clear hK K
  try clear hn
  refine wpS_nil ?_
  simp only [List.drop_succ_cons, List.drop_zero]
  have kp := HP.out.of hb
  replace hb0 := hb0.trans (hb.mono hb0.size)
  clear hb HP
  clear lq cq0 cq1 cq2 cq3
  clear lr cr0 cr1 cr2 cr3
  clear lp cp0 cp1 cp2 cp3
  have cp0 := kp.cell 0
  have cp1 := kp.cell 1
  have cp2 := kp.cell 2
  have cp3 := kp.cell 3
  have lp := kp.lt
  simp only [List.getElem?_toArray, List.getElem?_cons_zero, List.getElem?_cons_succ] at cp0 cp1 cp2 cp3
  go_wp2_with fail
  clear lp cp0 cp1 cp2 cp3
  refine (text_c _ (hG.of hb0)).mono ?_
  rintro e u9 ⟨rfl, hn⟩
  replace kp := kp.of hn
  replace hb0 := hb0.trans (hn.mono hb0.size)
  clear hn
  have cp0 := kp.cell 0
  have cp1 := kp.cell 1
  have cp2 := kp.cell 2
  have cp3 := kp.cell 3
  have lp := kp.lt
  simp only [List.getElem?_toArray, List.getElem?_cons_zero, List.getElem?_cons_succ] at cp0 cp1 cp2 cp3
  go_wp2_with fail
  clear lp cp0 cp1 cp2 cp3
  refine (sign_c _).mono ?_
  rintro e u10 ⟨rfl, hn⟩
  replace kp := kp.of hn
  replace hb0 := hb0.trans (hn.mono hb0.size)
  clear hn
  go_wp2
  go_ret
  exact ⟨rfl, hb0⟩
end Go.Proofs.YtcfiemeknocgjaaDoor

namespace Go.Proofs.YtcfiemeknocgjaaDoor
open Go.RowKit

theorem bigCmp_is (v v' : Value) (n m : Int) (L L' : Nat) (c : Int) (hc : cmpI n m = c) (w : World) (h : Big w v n L) (h' : Big w v' m L') :
    Calls Tryd.prog 20 #[v, v'] w fun e w' => e = .returned (.int .i64 c) ∧ Below w.heap.size w w' := hc ▸ bigCmp_any v v' n m L L' w h h'
abbrev BigVar (w : World) (b : Nat) (neg : Bool) (a : Option Addr) (l c : Nat) : Prop := Blk w b #[.bool neg, .slice a l c] 34
theorem BigVar.c {w : World} {b : Nat} {neg : Bool} {a : Option Addr} {l c : Nat} (h : BigVar w b neg a l c) : w.cell? ⟨b, 0, none⟩ = some (.bool neg) ∧ w.cell? ⟨b, 1, none⟩ = some (.slice a l c) := ⟨h.cell 0, h.cell 1⟩
theorem BigVar.f {w : World} {b : Nat} {neg : Bool} {a : Option Addr} {l c : Nat} (h : BigVar w b neg a l c) : w.frozen? ⟨b, 0, none⟩ = false ∧ w.frozen? ⟨b, 1, none⟩ = false := ⟨h.free 0, h.free 1⟩
theorem Read_in (x : Int) (hx : sg x = x) (w : World) : Calls Tryd.prog 16 #[wI x] w (GivesBig w x 18) := by
  have := Read_any x w
  rw [hx] at this
  exact this
theorem p255 : (2 : Int) ^ 255 = b255 := by decide
theorem cmp_ge {n m : Int} : decide (0 ≤ cmpI n m) = decide (m ≤ n) := by
  rcases Int.lt_trichotomy n m with h | h | h
  · rw [cmpI_lt h, Bool.eq_iff_iff, decide_eq_true_iff, decide_eq_true_iff]; omega
  · subst h; rw [cmpI_eq, Bool.eq_iff_iff, decide_eq_true_iff, decide_eq_true_iff]; omega
  · rw [cmpI_gt h, Bool.eq_iff_iff, decide_eq_true_iff, decide_eq_true_iff]; omega
theorem cmp_lt' {n m : Int} : decide (cmpI n m < 0) = decide (n < m) := by
  rcases Int.lt_trichotomy n m with h | h | h
  · rw [cmpI_lt h, Bool.eq_iff_iff, decide_eq_true_iff, decide_eq_true_iff]; omega
  · subst h; rw [cmpI_eq, Bool.eq_iff_iff, decide_eq_true_iff, decide_eq_true_iff]; omega
  · rw [cmpI_gt h, Bool.eq_iff_iff, decide_eq_true_iff, decide_eq_true_iff]; omega

set_option maxRecDepth 100000 in
set_option maxHeartbeats 2000000 in
theorem Fits_go (v : Value) (n : Int) (L : Nat) (w : World) (h : Big w v n L) (g1 g2 : Int) (hg1 : cmpI n (-b255) = g1) (hg2 : cmpI n b255 = g2) (x y : Bool) (hx : decide (0 ≤ g1) = x) (hy : decide (g2 < 0) = y) :
    Calls Tryd.prog 15 #[v] w fun e w' => e = .returned (.bool (x && y)) ∧ Below w.heap.size w w' := by
  have hv := h.shape
  obtain ⟨n1, a1, q1, e1, rfl⟩ := hv
  have HA := Lib.hid h
  have G1 := Lib.hid hg1
  have G2 := Lib.hid hg2
  clear h hg1 hg2
  go_enter Tryd.func15, Tryd.ntmps15
  go_wp2_with fail
  refine calls_w ?_
  intro W hW
  have k0 : BigVar W w.heap.size n1 a1 q1 e1 := by rw [hW]; exact Blk.new _ _ _
  have hb0 : Below w.heap.size w W := by rw [hW]; exact below_a1 _ _
  clear hW
  refine (Power_any 255 _ (by decide)).mono ?_
  rintro e u1 ⟨vm, rfl, hbm, hn⟩
  replace k0 : BigVar u1 _ _ _ _ _ := k0.of hn
  replace hb0 := hb0.trans (hn.mono hb0.size)
  rw [p255] at hbm
  have HP := Lib.hid hbm
  have hvm := hbm.shape
  clear hbm hn
  obtain ⟨n2, a2, q2, e2, rfl⟩ := hvm
  go_wp2_with fail
  refine name_world ?_
  intro V hV
  have hv : Below u1.heap.size u1 V := by rw [hV]; exact below_a1 _ _
  have kp : BigVar V u1.heap.size n2 a2 q2 e2 := by rw [hV]; exact Blk.new _ _ _
  replace k0 : BigVar V _ _ _ _ _ := k0.of hv
  replace HP := Lib.hid (HP.out.of hv)
  replace hb0 := hb0.trans (hv.mono hb0.size)
  have HV := Lib.hid (HA.out.of hb0)
  have c0 := BigVar.c k0
  have cp := BigVar.c kp
  have l0 := k0.lt
  have lp := kp.lt
  clear hV hv k0 kp HA
  cases x
  · skip
    refine wp_region_up V.heap.size 8 [(true, 0), (true, 1), (false, 2), (false, 3), (true, 4), (true, 5), (true, 6), (true, 7)] (by kernel_rfl) (by kernel_rfl) (fun _ _ d _ _ h => by cases d <;> exact h) ?_
    have hb : Below V.heap.size V V.drew := (Below.refl _ _).drew
    iterate 2
      refine wpS_takeL rfl rfl ?_
      go_big_quiet_step (rfl)
      refine wpQuiet_nil ?_
    refine wpS_doL rfl ?_
    intro K hK
    go_wp2_with ((first | (go_at_call 18; refine (Minus_any _ _ _ _ (HP.out.of hb)).mono ?_; rintro e w2 ⟨vm, rfl, hbm, hn⟩; have HM := Lib.hid hbm; have hvm := hbm.shape; clear hbm; obtain ⟨n3, a3, q3, e3, rfl⟩ := hvm) | (go_at_call 20; refine (bigCmp_is _ _ n (-b255) L _ g1 G1.out _ (HV.out.of hb) HM.out).mono ?_; rintro e w3 ⟨rfl, hn⟩)))
    replace hb := hb.trans (hn.mono hb.size)
    refine hK.out _ _ (up_iff.2 hb) ?_
    clear hK K
    clear hn
    refine wpS_doL rfl ?_
    intro K hK
    go_wp2_with ((first | (go_at_call 18; refine (Minus_any _ _ _ _ (HP.out.of hb)).mono ?_; rintro e w2 ⟨vm, rfl, hbm, hn⟩; have HM := Lib.hid hbm; have hvm := hbm.shape; clear hbm; obtain ⟨n3, a3, q3, e3, rfl⟩ := hvm) | (go_at_call 20; refine (bigCmp_is _ _ n (-b255) L _ g1 G1.out _ (HV.out.of hb) HM.out).mono ?_; rintro e w3 ⟨rfl, hn⟩)))
    replace hb := hb.trans (hn.mono hb.size)
    refine hK.out _ _ (up_iff.2 hb) ?_
    clear hK K
    clear hn
    iterate 4
      refine wpS_takeL rfl rfl ?_
      go_big_quiet_step (rfl)
      refine wpQuiet_nil ?_
    refine wpS_nil ?_
    simp only [List.drop_succ_cons, List.drop_zero]
    have hb2 := hb0.trans (hb.mono hb0.size)
    clear c0 cp l0 lp hb
    go_wp2
    go_ret
    exact ⟨rfl, hb2⟩
  · skip
    refine wp_region_up V.heap.size 8 [(true, 0), (true, 1), (false, 2), (false, 3), (true, 4), (true, 5), (true, 6), (true, 7)] (by kernel_rfl) (by kernel_rfl) (fun _ _ d _ _ h => by cases d <;> exact h) ?_
    have hb : Below V.heap.size V V.drew := (Below.refl _ _).drew
    iterate 2
      refine wpS_takeL rfl rfl ?_
      go_big_quiet_step (rfl)
      refine wpQuiet_nil ?_
    refine wpS_doL rfl ?_
    intro K hK
    go_wp2_with ((first | (go_at_call 18; refine (Minus_any _ _ _ _ (HP.out.of hb)).mono ?_; rintro e w2 ⟨vm, rfl, hbm, hn⟩; have HM := Lib.hid hbm; have hvm := hbm.shape; clear hbm; obtain ⟨n3, a3, q3, e3, rfl⟩ := hvm) | (go_at_call 20; refine (bigCmp_is _ _ n (-b255) L _ g1 G1.out _ (HV.out.of hb) HM.out).mono ?_; rintro e w3 ⟨rfl, hn⟩)))
    replace hb := hb.trans (hn.mono hb.size)
    refine hK.out _ _ (up_iff.2 hb) ?_
    clear hK K
    clear hn
    refine wpS_doL rfl ?_
    intro K hK
    go_wp2_with ((first | (go_at_call 18; refine (Minus_any _ _ _ _ (HP.out.of hb)).mono ?_; rintro e w2 ⟨vm, rfl, hbm, hn⟩; have HM := Lib.hid hbm; have hvm := hbm.shape; clear hbm; obtain ⟨n3, a3, q3, e3, rfl⟩ := hvm) | (go_at_call 20; refine (bigCmp_is _ _ n (-b255) L _ g1 G1.out _ (HV.out.of hb) HM.out).mono ?_; rintro e w3 ⟨rfl, hn⟩)))
    replace hb := hb.trans (hn.mono hb.size)
    refine hK.out _ _ (up_iff.2 hb) ?_
    clear hK K
    clear hn
    iterate 4
      refine wpS_takeL rfl rfl ?_
      go_big_quiet_step (rfl)
      refine wpQuiet_nil ?_
    refine wpS_nil ?_
    simp only [List.drop_succ_cons, List.drop_zero]
    have hb2 := hb0.trans (hb.mono hb0.size)
    clear c0 cp l0 lp hb0
    go_wp2_with fail
    refine (bigCmp_is _ _ n b255 L _ g2 G2.out _ (HV.out.of hb) (HP.out.of hb)).mono ?_
    rintro e w4 ⟨rfl, hn⟩
    replace hb2 := hb2.trans (hn.mono hb2.size)
    clear hn hb
    go_wp2
    go_ret
    exact ⟨rfl, hb2⟩
theorem Fits_is (v : Value) (n : Int) (L : Nat) (b : Bool) (hb : okI n = b) (w : World) (h : Big w v n L) :
    Calls Tryd.prog 15 #[v] w fun e w' => e = .returned (.bool b) ∧ Below w.heap.size w w' := by
  have T := Fits_go v n L w h _ _ rfl rfl _ _ cmp_ge cmp_lt'
  have e : (decide (-b255 ≤ n) && decide (n < b255)) = b := by rw [← hb]; unfold okI; rw [Bool.eq_iff_iff, Bool.and_eq_true, decide_eq_true_iff, decide_eq_true_iff, decide_eq_true_iff]; rfl
  rw [e] at T
  exact T

end Go.Proofs.YtcfiemeknocgjaaDoor

namespace Go.Proofs.YtcfiemeknocgjaaDoor
open Go.RowKit

set_option maxRecDepth 100000 in
set_option maxHeartbeats 1000000 in
theorem is_is (x n : Int) (v : Value) (L : Nat) (c : Int) (z : Bool) (hc : cmpI x n = c) (hz : (c == 0) = z) (hx : sg x = x) (w : World) (h : Big w v n L) :
    Calls Tryd.prog 14 #[wI x, v] w fun e w' => e = .returned (.bool z) ∧ Below w.heap.size w w' := by
  have HC := Lib.hid hc
  have HX := Lib.hid hx
  have HB := Lib.hid h
  have hv := h.shape
  clear hc hx h
  obtain ⟨n1, a1, q1, e1, rfl⟩ := hv
  go_enter Tryd.func14, Tryd.ntmps14
  go_wp2_with fail
  refine name_world ?_
  intro W hW
  have ka : Var W w.heap.size x := by rw [hW]; exact (Blk.new w _ _).alloc _
  have kb : BigVar W (w.heap.size + 1) n1 a1 q1 e1 := by rw [hW]; exact Blk.new1 w _ _ _
  have hb0 : Below w.heap.size w W := by rw [hW]; exact below_a2 _ _ _
  replace HB := Lib.hid (HB.out.of hb0)
  clear hW
  have ca := Var.c ka
  have cb := BigVar.c kb
  have la := ka.lt
  have lb := kb.lt
  clear ka kb
  refine wp_region_up W.heap.size 3 [(true, 0), (true, 2), (false, 1)] (by kernel_rfl) (by kernel_rfl) (fun _ _ d _ _ h => by cases d <;> exact h) ?_
  have hb : Below W.heap.size W W.drew := (Below.refl _ _).drew
  iterate 2
    refine wpS_takeL rfl rfl ?_
    go_big_quiet_step (rfl)
    refine wpQuiet_nil ?_
  refine wpS_doL rfl ?_
  intro K hK
  go_wp2_with ((go_at_call 16; (with_reducible refine (Read_in x HX.out _).mono ?_); rintro e w4 ⟨vm, rfl, hbm, hn⟩; have HM := Lib.hid hbm; clear hbm))
  replace hb := hb.trans (hn.mono hb.size)
  refine hK.out _ _ (up_iff.2 hb) ?_
  clear hK K
  clear hn
  refine wpS_nil ?_
  simp only [List.drop_succ_cons, List.drop_zero]
  replace hb0 := hb0.trans (hb.mono hb0.size)
  replace HB := Lib.hid (HB.out.of hb)
  clear hb ca cb la lb
  go_wp2_with fail
  refine (bigCmp_is _ _ x n 18 L c HC.out _ HM.out HB.out).mono ?_
  rintro e w5 ⟨rfl, hn⟩
  replace hb0 := hb0.trans (hn.mono hb0.size)
  clear hn
  go_wp2
  go_ret
  exact ⟨rfl, hb0⟩

set_option maxRecDepth 100000 in
set_option maxHeartbeats 1000000 in
theorem told_is (n x : Int) (o : Bool) (v : Value) (L : Nat) (ho : okI n = o) (hx : (bif o then n else 0) = x) (w : World) (h : Big w v n L) :
    Calls Tryd.prog 27 #[wI x, .bool o, v] w fun e w' => e = .returned (.bool true) ∧ Below w.heap.size w w' := by
  have HO := Lib.hid ho
  have HB := Lib.hid h
  have hv := h.shape
  clear h
  obtain ⟨n1, a1, q1, e1, rfl⟩ := hv
  cases o
  · obtain rfl : 0 = x := hx
    clear ho
    go_enter Tryd.func27, Tryd.ntmps27
    go_wp2_with fail
    refine calls_w ?_
    intro W hW
    have ka : Var W w.heap.size 0 := by rw [hW]; exact (Blk.new w _ _).alloc _
    have kb : BigVar W (w.heap.size + 1) n1 a1 q1 e1 := by rw [hW]; exact Blk.new1 w _ _ _
    have hb0 : Below w.heap.size w W := by rw [hW]; exact below_a2 _ _ _
    replace HB := Lib.hid (HB.out.of hb0)
    clear hW
    refine (Fits_is _ n L false HO.out _ HB.out).mono ?_
    rintro e u1 ⟨rfl, hn⟩
    replace ka := ka.of hn
    replace hb0 := hb0.trans (hn.mono hb0.size)
    clear hn
    have ca := Var.c ka
    have e0 : eq4 (wd0 0) (wd1 0) (wd2 0) (wd3 0) 0 0 0 0 = true := by kernel_rfl
    go_wp2
    go_ret
    exact ⟨by kernel_rfl, hb0⟩
  · obtain rfl : n = x := hx
    have hs : sg n = n := sg_id (by have : InI n := by simpa [okI] using ho
                                    exact this)
    clear ho
    go_enter Tryd.func27, Tryd.ntmps27
    go_wp2_with fail
    refine calls_w ?_
    intro W hW
    have ka : Var W w.heap.size n := by rw [hW]; exact (Blk.new w _ _).alloc _
    have kb : BigVar W (w.heap.size + 1) n1 a1 q1 e1 := by rw [hW]; exact Blk.new1 w _ _ _
    have hb0 : Below w.heap.size w W := by rw [hW]; exact below_a2 _ _ _
    replace HB := Lib.hid (HB.out.of hb0)
    clear hW
    refine (Fits_is _ n L true HO.out _ HB.out).mono ?_
    rintro e u1 ⟨rfl, hn⟩
    replace ka := ka.of hn
    replace kb := kb.of hn
    replace HB := Lib.hid (HB.out.of hn)
    replace hb0 := hb0.trans (hn.mono hb0.size)
    clear hn
    have ca := Var.c ka
    have cb := BigVar.c kb
    go_wp2_with fail
    refine (is_is n n _ L 0 true (cmpI_eq _) rfl hs _ HB.out).mono ?_
    rintro e u2 ⟨rfl, hn⟩
    replace hb0 := hb0.trans (hn.mono hb0.size)
    clear hn
    go_wp2
    go_ret
    exact ⟨by simp, hb0⟩
end Go.Proofs.YtcfiemeknocgjaaDoor

namespace Go.Proofs.YtcfiemeknocgjaaDoor
open Go.RowKit

theorem ws1 {W : World} {b : Nat} {u : Int} {t : TypeId} (hu : Wd u) (h : Blk W b #[.int .u64 u] t) : Ws W b [u] :=
  ⟨fun i hi => by
    match i, hi with
    | 0, _ => exact h.cell 0, h.lt, fun d hd => by rw [List.mem_singleton.1 hd]; exact hu, by simp⟩

set_option maxRecDepth 100000 in
set_option maxHeartbeats 1000000 in
theorem bigOf_pos (n : Int) (w : World) (h0 : 0 ≤ n) (h1 : n < 9223372036854775808) : Calls Tryd.prog 24 #[.int .i64 n] w (GivesBig w n 5) := by
  go_enter Tryd.func24, Tryd.ntmps24
  go_wp2_with fail
  refine calls_w ?_
  intro W hW
  have k0 : Blk W w.heap.size #[.bool false, .slice none 0 0] 34 := by rw [hW]; exact (Blk.new w _ _).alloc _
  have kl : Blk W (w.heap.size + 1) #[.int .u64 n] 22 := by rw [hW]; exact Blk.new1 w _ _ _
  have hb0 : Below w.heap.size w W := by rw [hW]; exact below_a2 _ _ _
  clear hW
  have T := Words_any (w.heap.size + 1) 1 1 [n] W (ws1 ⟨h0, by omega⟩ kl) rfl
  rw [show uval [n] = n by simp [uval]] at T
  refine T.mono ?_
  clear T
  rintro e u1 ⟨vm, rfl, hbm, hn⟩
  replace k0 := k0.of hn
  replace hb0 := hb0.trans (hn.mono hb0.size)
  have HBG := Lib.hid hbm
  have hvm := hbm.shape
  clear hbm hn kl
  obtain ⟨n5, a5, q5, c5, rfl⟩ := hvm
  have d0 := k0.cell 0
  have d1 := k0.cell 1
  have f0 := k0.free 0
  have f1 := k0.free 1
  simp only [List.getElem?_toArray, List.getElem?_cons_zero, List.getElem?_cons_succ] at d0 d1
  clear k0
  go_wp2
  simp [bodyPost, results, Tryd.results24, go_sem, d0, d1]
  exact ⟨_, rfl, HBG.out.set2 d0 (.bool n5) (.slice a5 q5 c5), set2_below hb0 (Nat.le_refl _) _ _⟩

set_option maxRecDepth 100000 in
set_option maxHeartbeats 1000000 in
theorem bigOf_neg (n : Int) (w : World) (h0 : n < 0) (h1 : -9223372036854775808 ≤ n) : Calls Tryd.prog 24 #[.int .i64 n] w (GivesBig w n 5) := by
  have hn0 : ¬ 0 ≤ n := by omega
  go_enter Tryd.func24, Tryd.ntmps24
  go_wp2_with fail
  refine calls_w ?_
  intro W hW
  have k0 : Blk W w.heap.size #[.bool false, .slice none 0 0] 34 := by rw [hW]; exact (Blk.new w _ _).alloc _
  have kl : Blk W (w.heap.size + 1) #[.int .u64 (-(n + 1) + 1)] 22 := by rw [hW]; exact Blk.new1 w _ _ _
  have hb0 : Below w.heap.size w W := by rw [hW]; exact below_a2 _ _ _
  clear hW
  have T := Words_any (w.heap.size + 1) 1 1 [-(n + 1) + 1] W (ws1 ⟨by omega, by omega⟩ kl) rfl
  rw [show uval [-(n + 1) + 1] = -n by simp [uval]; omega] at T
  refine T.mono ?_
  clear T
  rintro e u1 ⟨vm, rfl, hbm, hn⟩
  replace k0 := k0.of hn
  replace hb0 := hb0.trans (hn.mono hb0.size)
  have HB1 := Lib.hid hbm
  have hvm := hbm.shape
  clear hbm hn kl
  obtain ⟨n4, a4, q4, c4, rfl⟩ := hvm
  go_wp2_with fail
  have T := Minus_any _ _ _ _ HB1.out
  rw [Int.neg_neg] at T
  refine T.mono ?_
  clear T
  rintro e u2 ⟨vm, rfl, hbm, hn⟩
  replace k0 := k0.of hn
  replace hb0 := hb0.trans (hn.mono hb0.size)
  have HBG := Lib.hid hbm
  have hvm := hbm.shape
  clear hbm hn HB1
  obtain ⟨n5, a5, q5, c5, rfl⟩ := hvm
  have d0 := k0.cell 0
  have d1 := k0.cell 1
  have f0 := k0.free 0
  have f1 := k0.free 1
  simp only [List.getElem?_toArray, List.getElem?_cons_zero, List.getElem?_cons_succ] at d0 d1
  clear k0
  go_wp2
  simp [bodyPost, results, Tryd.results24, go_sem, d0, d1]
  exact ⟨_, rfl, HBG.out.set2 d0 (.bool n5) (.slice a5 q5 c5), set2_below hb0 (Nat.le_refl _) _ _⟩
theorem bigOf_any (n : Int) (w : World) (h : In64 n) : Calls Tryd.prog 24 #[.int .i64 n] w (GivesBig w n 5) := by
  by_cases h0 : 0 ≤ n
  · exact bigOf_pos n w h0 h.2
  · exact bigOf_neg n w (by omega) h.1
end Go.Proofs.YtcfiemeknocgjaaDoor

namespace Go.Proofs.YtcfiemeknocgjaaDoor
open Go.RowKit

theorem heap_setL (w : World) (b o : Nat) (l : List Value) (k : Nat) (hk : k ≠ b) : (setL w b o l).heap[k]? = w.heap[k]? := by
  induction l generalizing w o with
  | nil => rfl
  | cons v l ih => unfold setL; rw [ih, Below.heap_setCell _ _ _ _ hk]
theorem big_setL {w : World} {v : Value} {n : Int} {L b : Nat} (h : Big w v n L) {x : Value} (hd : w.cell? ⟨b, 0, none⟩ = some x) (hx : ∀ i, x ≠ .int .i64 i) (o : Nat) (l : List Value) : Big (setL w b o l) v n L := by
  obtain ⟨neg, ao, b3, cap, ds, h1, h2, h3⟩ := h
  have hne : 0 < ds.length → b3 ≠ b := by
    intro h0 e
    have := h2.cell 0 h0
    rw [e, hd] at this
    exact hx _ (Option.some.inj this)
  refine ⟨neg, ao, b3, cap, ds, h1, ⟨h2.ptr, h2.nil, h2.capl, h2.len, h2.capb, fun i hi => ?_, fun hl => ?_⟩, h3⟩
  · have e := h2.cell i hi
    unfold World.cell? at e ⊢
    rw [heap_setL _ _ _ _ _ (hne (by omega))]; exact e
  · rw [size_setL]; exact h2.blk hl
theorem bigOf_v (n d : Int) (h : n = d) (g : In64 n) (w : World) : Calls Tryd.prog 24 #[.int .i64 n] w (GivesBig w d 5) := h ▸ bigOf_any n w g
theorem bigMul_v (v v' : Value) (n m p : Int) (L L' : Nat) (hp : n * m = p) (w : World) (h : Big w v n L) (h' : Big w v' m L') (hL : L + L' < 268435456) :
    Calls Tryd.prog 25 #[v, v'] w (GivesBig w p (L + L')) := hp ▸ bigMul_any v v' n m L L' w h h' hL
theorem bigAdd_v (v v' : Value) (n m p : Int) (L : Nat) (hp : n + m = p) (w : World) (h : Big w v n L) (h' : Big w v' m L) (hL : L < 268435456) :
    Calls Tryd.prog 23 #[v, v'] w (GivesBig w p (L + 1)) := hp ▸ bigAdd_any v v' n m L w h h' hL
theorem bigMinus_v (v : Value) (n p : Int) (L : Nat) (hp : -n = p) (w : World) (h : Big w v n L) : Calls Tryd.prog 18 #[v] w (GivesBig w p L) := hp ▸ Minus_any v n L w h
theorem bigCmp_v (v v' : Value) (n m : Int) (L L' : Nat) (c : Int) (hc : cmpI n m = c) (w : World) (h : Big w v n L) (h' : Big w v' m L') :
    Calls Tryd.prog 20 #[v, v'] w fun e w' => e = .returned (.int .i64 c) ∧ Below w.heap.size w w' := hc ▸ bigCmp_any v v' n m L L' w h h'
theorem bigSign_v (v : Value) (n : Int) (L : Nat) (s : Int) (hs : n.sign = s) (w : World) (h : Big w v n L) :
    Calls Tryd.prog 17 #[v] w fun e w' => e = .returned (.int .i64 s) ∧ Below w.heap.size w w' := hs ▸ bigSign_any v n L w h
theorem Read_v (x d : Int) (h : x = d) (ix : InI x) (w : World) : Calls Tryd.prog 16 #[wI x] w (GivesBig w d 18) := by
  have := Read_any x w
  have e : sg x = d := (sg_id ix).trans h
  rw [e] at this
  exact this
end Go.Proofs.YtcfiemeknocgjaaDoor

namespace Go.Proofs.YtcfiemeknocgjaaDoor
open Go.RowKit

theorem powk_v (k q : Int) (h : 0 ≤ k ∧ k ≤ 256) (e : 2 ^ k.toNat = q) (w : World) : Calls Tryd.prog 21 #[.int .i64 k] w (GivesBig w q 18) := by
  obtain ⟨n, rfl⟩ := Int.eq_ofNat_of_zero_le h.1
  have hn : n ≤ 256 := by omega
  have T := Power_any n w hn
  rw [show (2 : Int) ^ n = q from e] at T
  exact T.mono fun e w' ⟨v, h1, h2, h3⟩ => ⟨v, h1, h2.mono (by omega), h3⟩
theorem fit_I {w : World} {v : Value} {n : Int} {L : Nat} (h : Big w v n L) (hn : InI n) : Big w v n 18 := h.fit (by
  have : P15 18 = 1897137590064188545819787018382342682267975428761855001222473056385648716020711424 := by decide
  unfold InI b255 at hn; omega)
theorem pw_in1 {k : Int} (h : 0 ≤ k ∧ k ≤ 256) (g : 0 < k) : 0 ≤ wrap64 (k - 1) ∧ wrap64 (k - 1) ≤ 256 := by
  rw [show wrap64 (k - 1) = k - 1 from wrap64_id (by unfold In64; omega)]; omega
theorem okI_t {o : Int} (h : InI o) : okI o = true := decide_eq_true h

theorem PwI.nextM {x n o k p : Int} (h : PwI x n o k) (hk : k < n) (e : o * x = p) (ok : okI (o * x) = true) : PwI x n p (wrap64 (k + 1)) := h.next hk (by unfold mulv; rw [ok]; exact e) ok

set_option maxRecDepth 100000 in
set_option maxHeartbeats 4000000 in

theorem WRo_00 (a : Int) (n : Int) (s : Int) (k : Int) (q : Int) (m : Int) (c1 : Int) (q2 : Int) (c2 : Int)   (hP0 : a.sign = s) (hP1 : decide (s < 0) = true) (hP2 : btn a = k) (hP3 : decide (k < 0) = false) (hP4 : decide (256 < k) = false) (hP5 : 2 ^ k.toNat = q) (hP6 : -a = m) (hP7 : cmpI m q = c1) (hP8 : decide (0 ≤ c1) = false) (hP9 : decide (0 < k) = true) (hP10 : 2 ^ (wrap64 (k - 1)).toNat = q2) (hP11 : cmpI m q2 = c2) (hP12 : decide (c2 < 0) = false) (hP13 : rtv a = 0) (hP14 : rtk a = false) (hP15 : pwv a n = 0) (hP16 : pwk a n = false) (hP17 : decide (n < 0) = true) (_ik : Hid (0 ≤ k ∧ k ≤ 256)) (_ia : InI a) (_in : In64 n)  (w : World) (hG : Tab w) :
    Calls Tryd.prog 6 #[.agg #[.int .u64 (wd0 a), .int .u64 (wd1 a), .int .u64 (wd2 a), .int .u64 (wd3 a)], .int .i64 n] w fun e w' => e = .returned (.bool true) ∧ Below w.heap.size w w' := by

  have HP0 := Lib.hid hP0
  clear hP0
  have HP2 := Lib.hid hP2
  clear hP2
  have HP5 := Lib.hid hP5
  clear hP5
  have HP6 := Lib.hid hP6
  clear hP6
  have HP7 := Lib.hid hP7
  clear hP7
  have HP10 := Lib.hid hP10
  clear hP10
  have HP11 := Lib.hid hP11
  clear hP11
  have HP13 := Lib.hid hP13
  clear hP13
  have HP14 := Lib.hid hP14
  clear hP14
  have HP15 := Lib.hid hP15
  clear hP15
  have HP16 := Lib.hid hP16
  clear hP16
  go_enter Tryd.func6, Tryd.ntmps6
  go_wp2_with fail
  first | refine calls_w ?_ | refine name_world ?_ | refine list_world ?_ | refine post_world ?_
  intro V1 hV1
  have hn : Below w.heap.size w V1 := by rw [hV1]; exact below_a1 _ _
  have nhb0 := hn
  have k1 : Blk V1 w.heap.size #[.int .u64 (wd0 a), .int .u64 (wd1 a), .int .u64 (wd2 a), .int .u64 (wd3 a)] 24 := by rw [hV1]; exact (Blk.new _ _ _)
  clear hV1
  have hb0 := nhb0
  clear nhb0
  refine (Read_v a a rfl _ia _).mono ?_
  rintro e U2 ⟨v_, rfl, hbm, hn⟩
  replace k1 := k1.of hn
  replace hb0 := hb0.trans (hn.mono hb0.size)
  clear hn
  have HB1 := Lib.hid hbm
  have hvm := hbm.shape
  clear hbm
  obtain ⟨bn1, ba1, bl1, bc1, rfl⟩ := hvm
  go_wp2_with fail
  first | refine calls_w ?_ | refine name_world ?_ | refine list_world ?_ | refine post_world ?_
  intro V3 hV3
  have D1 := Lib.hid k1.lt
  have D2 := Lib.hid hb0.size
  have hn : Below U2.heap.size U2 V3 := by rw [hV3]; exact below_a2 _ _ _
  have nk1 := k1.of hn
  replace HB1 := Lib.hid (HB1.out.of hn)
  have nhb0 := hb0.trans (hn.mono hb0.size)
  clear hn
  have k2 : Blk V3 U2.heap.size #[.bool bn1, .slice ba1 bl1 bc1] 34 := by rw [hV3]; exact ((Blk.new _ _ _).alloc _)
  have k3 : Blk V3 (U2.heap.size + 1) #[.bool bn1, .slice ba1 bl1 bc1] 34 := by rw [hV3]; exact (Blk.new1 _ _ _ _)
  clear k1
  clear hb0
  clear hV3
  have k1 := nk1
  clear nk1
  have hb0 := nhb0
  clear nhb0
  refine (bigSign_v (.agg #[.bool bn1, .slice ba1 bl1 bc1]) a 18 s HP0.out _ HB1.out).mono ?_
  rintro e U4 ⟨rfl, hn⟩
  replace k1 := k1.of hn
  replace k2 := k2.of hn
  replace k3 := k3.of hn
  replace HB1 := Lib.hid (HB1.out.of hn)
  replace hb0 := hb0.trans (hn.mono hb0.size)
  clear hn
  have c2_0 : U4.cell? ⟨U2.heap.size, 0, none⟩ = some (.bool bn1) := k2.cell 0
  have c2_1 : U4.cell? ⟨U2.heap.size, 1, none⟩ = some (.slice ba1 bl1 bc1) := k2.cell 1
  have l2 := k2.lt
  go_wp2_with fail
  clear c2_0 c2_1 l2
  refine (bigMinus_v (.agg #[.bool bn1, .slice ba1 bl1 bc1]) a m 18 HP6.out _ HB1.out).mono ?_
  rintro e U5 ⟨v_, rfl, hbm, hn⟩
  replace k1 := k1.of hn
  replace k2 := k2.of hn
  replace k3 := k3.of hn
  replace HB1 := Lib.hid (HB1.out.of hn)
  replace hb0 := hb0.trans (hn.mono hb0.size)
  clear hn
  have HB2 := Lib.hid hbm
  have hvm := hbm.shape
  clear hbm
  obtain ⟨bn2, ba2, bl2, bc2, rfl⟩ := hvm
  have c1_0 : U5.cell? ⟨w.heap.size, 0, none⟩ = some (.int .u64 (wd0 a)) := k1.cell 0
  have c1_1 : U5.cell? ⟨w.heap.size, 1, none⟩ = some (.int .u64 (wd1 a)) := k1.cell 1
  have c1_2 : U5.cell? ⟨w.heap.size, 2, none⟩ = some (.int .u64 (wd2 a)) := k1.cell 2
  have c1_3 : U5.cell? ⟨w.heap.size, 3, none⟩ = some (.int .u64 (wd3 a)) := k1.cell 3
  have l1 := k1.lt
  have c3_0 : U5.cell? ⟨(U2.heap.size + 1), 0, none⟩ = some (.bool bn1) := k3.cell 0
  have c3_1 : U5.cell? ⟨(U2.heap.size + 1), 1, none⟩ = some (.slice ba1 bl1 bc1) := k3.cell 1
  have f3_0 := k3.free 0
  have f3_1 := k3.free 1
  have l3 := k3.lt
  have p1_3 : w.heap.size ≠ (U2.heap.size + 1) := (by have := D1.out; omega)
  go_wp2_with fail
  clear c1_0 c1_1 c1_2 c1_3 l1 c3_0 c3_1 f3_0 f3_1 l3 p1_3
  first | refine calls_w ?_ | refine name_world ?_ | refine list_world ?_ | refine post_world ?_
  intro V6 hV6
  have D3 := Lib.hid k1.lt
  have D4 := Lib.hid k2.lt
  have D5 := Lib.hid k3.lt
  have D6 := Lib.hid hb0.size
  have nk1 : Blk V6 w.heap.size #[.int .u64 (wd0 a), .int .u64 (wd1 a), .int .u64 (wd2 a), .int .u64 (wd3 a)] 24 := by rw [hV6]; exact (blk_setL k1 (by have := D1.out; omega) 0 [.bool bn2, .slice ba2 bl2 bc2])
  have nk2 : Blk V6 U2.heap.size #[.bool bn1, .slice ba1 bl1 bc1] 34 := by rw [hV6]; exact (blk_setL k2 (by omega) 0 [.bool bn2, .slice ba2 bl2 bc2])
  have nk3 : Blk V6 (U2.heap.size + 1) #[.bool bn2, .slice ba2 bl2 bc2] 34 := by rw [hV6]; exact (blk_full _ [.bool bn2, .slice ba2 bl2 bc2] k3 rfl)
  have nhb0 : Below w.heap.size w V6 := by rw [hV6]; exact (blw_setL hb0 (by have := D2.out; omega) 0 [.bool bn2, .slice ba2 bl2 bc2])
  replace HB1 : Hid (Big V6 (.agg #[.bool bn1, .slice ba1 bl1 bc1]) a 18) := Lib.hid (by rw [hV6]; exact (big_setL HB1.out (Blk.cell k3 0) (fun _ h => by cases h) 0 [.bool bn2, .slice ba2 bl2 bc2]))
  replace HB2 : Hid (Big V6 (.agg #[.bool bn2, .slice ba2 bl2 bc2]) m 18) := Lib.hid (by rw [hV6]; exact (big_setL HB2.out (Blk.cell k3 0) (fun _ h => by cases h) 0 [.bool bn2, .slice ba2 bl2 bc2]))
  clear k1 k2 k3
  clear hb0
  clear hV6
  have k1 := nk1
  clear nk1
  have k2 := nk2
  clear nk2
  have k3 := nk3
  clear nk3
  have hb0 := nhb0
  clear nhb0
  refine (Bits_v a k HP2.out _ia _).mono ?_
  rintro e U7 ⟨rfl, hn⟩
  replace k1 := k1.of hn
  replace k2 := k2.of hn
  replace k3 := k3.of hn
  replace HB1 := Lib.hid (HB1.out.of hn)
  replace HB2 := Lib.hid (HB2.out.of hn)
  replace hb0 := hb0.trans (hn.mono hb0.size)
  clear hn
  go_wp2_with fail
  have c3_0 : U7.cell? ⟨(U2.heap.size + 1), 0, none⟩ = some (.bool bn2) := k3.cell 0
  have c3_1 : U7.cell? ⟨(U2.heap.size + 1), 1, none⟩ = some (.slice ba2 bl2 bc2) := k3.cell 1
  have l3 := k3.lt
  have Kk1 := Lib.hid k1
  clear k1
  have Kk2 := Lib.hid k2
  clear k2
  have Kk3 := Lib.hid k3
  clear k3
  refine wp_region_up U7.heap.size 21 [(true, 0), (true, 1), (true, 2), (true, 3), (true, 4), (true, 5), (true, 6), (true, 7), (true, 8), (false, 9), (false, 10), (true, 11), (true, 12), (true, 13), (true, 14), (true, 15), (true, 16), (true, 17), (true, 18), (true, 19), (false, 20)] (by kernel_rfl) (by kernel_rfl) (fun _ _ d _ _ h => by cases d <;> exact h) ?_
  have hb : Below U7.heap.size U7 U7.drew := (Below.refl _ _).drew
  iterate 9
    refine wpS_takeL rfl rfl ?_
    go_big_quiet_step (rfl)
    refine wpQuiet_nil ?_
  refine wpS_doL rfl ?_
  intro K hK
  go_wp2_with ((first | (go_at_call 21; (with_reducible refine (powk_v k q _ik.out HP5.out _).mono ?_); rintro e w2 ⟨v_, rfl, hbm, hn⟩; have HB3 := Lib.hid hbm; have hvm := hbm.shape; clear hbm; obtain ⟨bn3, ba3, bl3, bc3, rfl⟩ := hvm) | (go_at_call 21; (with_reducible refine (powk_v (wrap64 (k - 1)) q2 (pw_in1 _ik.out (of_decide_eq_true hP9)) HP10.out _).mono ?_); rintro e w2 ⟨v_, rfl, hbm, hn⟩; replace HB3 := Lib.hid (HB3.out.of hn); have HB4 := Lib.hid hbm; have hvm := hbm.shape; clear hbm; obtain ⟨bn4, ba4, bl4, bc4, rfl⟩ := hvm)))
  try replace hb := hb.trans (hn.mono hb.size)
  refine hK.out _ _ (up_iff.2 hb) ?_
  clear hK K
  try clear hn
  refine wpS_doL rfl ?_
  intro K hK
  go_wp2_with ((go_at_call 20; (with_reducible refine (bigCmp_v (.agg #[.bool bn2, .slice ba2 bl2 bc2]) (.agg #[.bool bn3, .slice ba3 bl3 bc3]) m q 18 18 c1 HP7.out _ (HB2.out.of hb) HB3.out).mono ?_); rintro e w2 ⟨rfl, hn⟩; replace HB3 := Lib.hid (HB3.out.of hn)))
  try replace hb := hb.trans (hn.mono hb.size)
  refine hK.out _ _ (up_iff.2 hb) ?_
  clear hK K
  try clear hn
  iterate 9
    refine wpS_takeL rfl rfl ?_
    go_big_quiet_step (rfl)
    refine wpQuiet_nil ?_
  refine wpS_doL rfl ?_
  intro K hK
  go_wp2_with ((first | (go_at_call 21; (with_reducible refine (powk_v k q _ik.out HP5.out _).mono ?_); rintro e w2 ⟨v_, rfl, hbm, hn⟩; have HB3 := Lib.hid hbm; have hvm := hbm.shape; clear hbm; obtain ⟨bn3, ba3, bl3, bc3, rfl⟩ := hvm) | (go_at_call 21; (with_reducible refine (powk_v (wrap64 (k - 1)) q2 (pw_in1 _ik.out (of_decide_eq_true hP9)) HP10.out _).mono ?_); rintro e w2 ⟨v_, rfl, hbm, hn⟩; replace HB3 := Lib.hid (HB3.out.of hn); have HB4 := Lib.hid hbm; have hvm := hbm.shape; clear hbm; obtain ⟨bn4, ba4, bl4, bc4, rfl⟩ := hvm)))
  try replace hb := hb.trans (hn.mono hb.size)
  refine hK.out _ _ (up_iff.2 hb) ?_
  clear hK K
  try clear hn
  refine wpS_nil ?_
  simp only [List.drop_succ_cons, List.drop_zero]
  first | refine calls_w ?_ | refine name_world ?_ | refine list_world ?_ | refine post_world ?_
  intro U8 hU8
  first | (subst hU8; have u_ := U8; clear u_) | (rw [← hU8] at hb; clear hU8)
  clear c3_0 c3_1 l3
  have k1 := Kk1.out.of hb
  clear Kk1
  have k2 := Kk2.out.of hb
  clear Kk2
  have k3 := Kk3.out.of hb
  clear Kk3
  replace HB1 := Lib.hid (HB1.out.of hb)
  replace HB2 := Lib.hid (HB2.out.of hb)
  replace hb0 := hb0.trans (hb.mono hb0.size)
  clear hb
  go_wp2_with fail
  refine (bigCmp_v (.agg #[.bool bn2, .slice ba2 bl2 bc2]) (.agg #[.bool bn4, .slice ba4 bl4 bc4]) m q2 18 18 c2 HP11.out _ HB2.out HB4.out).mono ?_
  rintro e U9 ⟨rfl, hn⟩
  clear HB2 HB3 HB4
  clear k3
  replace k1 := k1.of hn
  replace k2 := k2.of hn
  replace HB1 := Lib.hid (HB1.out.of hn)
  replace hb0 := hb0.trans (hn.mono hb0.size)
  clear hn
  have c1_0 : U9.cell? ⟨w.heap.size, 0, none⟩ = some (.int .u64 (wd0 a)) := k1.cell 0
  have c1_1 : U9.cell? ⟨w.heap.size, 1, none⟩ = some (.int .u64 (wd1 a)) := k1.cell 1
  have c1_2 : U9.cell? ⟨w.heap.size, 2, none⟩ = some (.int .u64 (wd2 a)) := k1.cell 2
  have c1_3 : U9.cell? ⟨w.heap.size, 3, none⟩ = some (.int .u64 (wd3 a)) := k1.cell 3
  have l1 := k1.lt
  go_wp2_with fail
  clear c1_0 c1_1 c1_2 c1_3 l1
  refine (Root_v a 0 false HP13.out HP14.out _ia _).mono ?_
  rintro e U10 ⟨rfl, hn⟩
  replace k1 := k1.of hn
  replace k2 := k2.of hn
  replace HB1 := Lib.hid (HB1.out.of hn)
  replace hb0 := hb0.trans (hn.mono hb0.size)
  clear hn
  have c2_0 : U10.cell? ⟨U2.heap.size, 0, none⟩ = some (.bool bn1) := k2.cell 0
  have c2_1 : U10.cell? ⟨U2.heap.size, 1, none⟩ = some (.slice ba1 bl1 bc1) := k2.cell 1
  have l2 := k2.lt
  go_wp2_with fail
  clear c2_0 c2_1 l2
  first | refine calls_w ?_ | refine name_world ?_ | refine list_world ?_ | refine post_world ?_
  intro V11 hV11
  have D7 := Lib.hid k1.lt
  have D8 := Lib.hid k2.lt
  have D9 := Lib.hid hb0.size
  have hn : Below U10.heap.size U10 V11 := by rw [hV11]; exact below_a1 _ _
  have nk1 := k1.of hn
  have nk2 := k2.of hn
  replace HB1 := Lib.hid (HB1.out.of hn)
  have nhb0 := hb0.trans (hn.mono hb0.size)
  clear hn
  have k4 : Blk V11 U10.heap.size #[.int .u64 (wd0 0), .int .u64 (wd1 0), .int .u64 (wd2 0), .int .u64 (wd3 0)] 24 := by rw [hV11]; exact (Blk.new _ _ _)
  clear k1 k2
  clear hb0
  clear hV11
  have k1 := nk1
  clear nk1
  have k2 := nk2
  clear nk2
  have hb0 := nhb0
  clear nhb0
  refine (bigSign_v (.agg #[.bool bn1, .slice ba1 bl1 bc1]) a 18 s HP0.out _ HB1.out).mono ?_
  rintro e U12 ⟨rfl, hn⟩
  replace k1 := k1.of hn
  replace k2 := k2.of hn
  replace k4 := k4.of hn
  replace HB1 := Lib.hid (HB1.out.of hn)
  replace hb0 := hb0.trans (hn.mono hb0.size)
  clear hn
  have c1_0 : U12.cell? ⟨w.heap.size, 0, none⟩ = some (.int .u64 (wd0 a)) := k1.cell 0
  have c1_1 : U12.cell? ⟨w.heap.size, 1, none⟩ = some (.int .u64 (wd1 a)) := k1.cell 1
  have c1_2 : U12.cell? ⟨w.heap.size, 2, none⟩ = some (.int .u64 (wd2 a)) := k1.cell 2
  have c1_3 : U12.cell? ⟨w.heap.size, 3, none⟩ = some (.int .u64 (wd3 a)) := k1.cell 3
  have l1 := k1.lt
  have c4_0 : U12.cell? ⟨U10.heap.size, 0, none⟩ = some (.int .u64 (wd0 0)) := k4.cell 0
  have c4_1 : U12.cell? ⟨U10.heap.size, 1, none⟩ = some (.int .u64 (wd1 0)) := k4.cell 1
  have c4_2 : U12.cell? ⟨U10.heap.size, 2, none⟩ = some (.int .u64 (wd2 0)) := k4.cell 2
  have c4_3 : U12.cell? ⟨U10.heap.size, 3, none⟩ = some (.int .u64 (wd3 0)) := k4.cell 3
  have l4 := k4.lt
  go_wp2_with fail
  clear c1_0 c1_1 c1_2 c1_3 l1 c4_0 c4_1 c4_2 c4_3 l4
  refine (Power_v a n 0 false HP15.out HP16.out _ia _in _).mono ?_
  rintro e U13 ⟨rfl, hn⟩
  clear k1 k4
  replace k2 := k2.of hn
  replace HB1 := Lib.hid (HB1.out.of hn)
  replace hb0 := hb0.trans (hn.mono hb0.size)
  clear hn
  go_wp2_with fail
  first | refine calls_w ?_ | refine name_world ?_ | refine list_world ?_ | refine post_world ?_
  intro V14 hV14
  have D10 := Lib.hid k2.lt
  have D11 := Lib.hid hb0.size
  have hn : Below U13.heap.size U13 V14 := by rw [hV14]; exact below_a1 _ _
  have nk2 := k2.of hn
  replace HB1 := Lib.hid (HB1.out.of hn)
  have nhb0 := hb0.trans (hn.mono hb0.size)
  clear hn
  have k5 : Blk V14 U13.heap.size #[.int .u64 (wd0 0), .int .u64 (wd1 0), .int .u64 (wd2 0), .int .u64 (wd3 0)] 24 := by rw [hV14]; exact (Blk.new _ _ _)
  clear k2
  clear hb0
  clear hV14
  have k2 := nk2
  clear nk2
  have hb0 := nhb0
  clear nhb0
  refine (wawake_any _ (hG.of hb0)).mono ?_
  rintro e U15 ⟨rfl, hn⟩
  replace k2 := k2.of hn
  replace k5 := k5.of hn
  replace HB1 := Lib.hid (HB1.out.of hn)
  replace hb0 := hb0.trans (hn.mono hb0.size)
  clear hn
  go_wp2
  first | go_ret | go_ret2
  exact ⟨by first | rfl | (simp; done) | (simp; assumption), hb0⟩

set_option maxRecDepth 100000 in
set_option maxHeartbeats 4000000 in

theorem WRo_01 (a : Int) (n : Int) (s : Int) (k : Int) (q : Int) (m : Int) (c1 : Int) (q2 : Int) (c2 : Int)   (hP0 : a.sign = s) (hP1 : decide (s < 0) = true) (hP2 : btn a = k) (hP3 : decide (k < 0) = false) (hP4 : decide (256 < k) = false) (hP5 : 2 ^ k.toNat = q) (hP6 : -a = m) (hP7 : cmpI m q = c1) (hP8 : decide (0 ≤ c1) = false) (hP9 : decide (0 < k) = true) (hP10 : 2 ^ (wrap64 (k - 1)).toNat = q2) (hP11 : cmpI m q2 = c2) (hP12 : decide (c2 < 0) = false) (hP13 : rtv a = 0) (hP14 : rtk a = false) (hP15 : pwv a n = 0) (hP16 : pwk a n = false) (hP17 : decide (n < 0) = false) (hP18 : decide (256 < n) = true) (_ik : Hid (0 ≤ k ∧ k ≤ 256)) (_ia : InI a) (_in : In64 n)  (w : World) (hG : Tab w) :
    Calls Tryd.prog 6 #[.agg #[.int .u64 (wd0 a), .int .u64 (wd1 a), .int .u64 (wd2 a), .int .u64 (wd3 a)], .int .i64 n] w fun e w' => e = .returned (.bool true) ∧ Below w.heap.size w w' := by

  have HP0 := Lib.hid hP0
  clear hP0
  have HP2 := Lib.hid hP2
  clear hP2
  have HP5 := Lib.hid hP5
  clear hP5
  have HP6 := Lib.hid hP6
  clear hP6
  have HP7 := Lib.hid hP7
  clear hP7
  have HP10 := Lib.hid hP10
  clear hP10
  have HP11 := Lib.hid hP11
  clear hP11
  have HP13 := Lib.hid hP13
  clear hP13
  have HP14 := Lib.hid hP14
  clear hP14
  have HP15 := Lib.hid hP15
  clear hP15
  have HP16 := Lib.hid hP16
  clear hP16
  go_enter Tryd.func6, Tryd.ntmps6
  go_wp2_with fail
  first | refine calls_w ?_ | refine name_world ?_ | refine list_world ?_ | refine post_world ?_
  intro V1 hV1
  have hn : Below w.heap.size w V1 := by rw [hV1]; exact below_a1 _ _
  have nhb0 := hn
  have k1 : Blk V1 w.heap.size #[.int .u64 (wd0 a), .int .u64 (wd1 a), .int .u64 (wd2 a), .int .u64 (wd3 a)] 24 := by rw [hV1]; exact (Blk.new _ _ _)
  clear hV1
  have hb0 := nhb0
  clear nhb0
  refine (Read_v a a rfl _ia _).mono ?_
  rintro e U2 ⟨v_, rfl, hbm, hn⟩
  replace k1 := k1.of hn
  replace hb0 := hb0.trans (hn.mono hb0.size)
  clear hn
  have HB1 := Lib.hid hbm
  have hvm := hbm.shape
  clear hbm
  obtain ⟨bn1, ba1, bl1, bc1, rfl⟩ := hvm
  go_wp2_with fail
  first | refine calls_w ?_ | refine name_world ?_ | refine list_world ?_ | refine post_world ?_
  intro V3 hV3
  have D1 := Lib.hid k1.lt
  have D2 := Lib.hid hb0.size
  have hn : Below U2.heap.size U2 V3 := by rw [hV3]; exact below_a2 _ _ _
  have nk1 := k1.of hn
  replace HB1 := Lib.hid (HB1.out.of hn)
  have nhb0 := hb0.trans (hn.mono hb0.size)
  clear hn
  have k2 : Blk V3 U2.heap.size #[.bool bn1, .slice ba1 bl1 bc1] 34 := by rw [hV3]; exact ((Blk.new _ _ _).alloc _)
  have k3 : Blk V3 (U2.heap.size + 1) #[.bool bn1, .slice ba1 bl1 bc1] 34 := by rw [hV3]; exact (Blk.new1 _ _ _ _)
  clear k1
  clear hb0
  clear hV3
  have k1 := nk1
  clear nk1
  have hb0 := nhb0
  clear nhb0
  refine (bigSign_v (.agg #[.bool bn1, .slice ba1 bl1 bc1]) a 18 s HP0.out _ HB1.out).mono ?_
  rintro e U4 ⟨rfl, hn⟩
  replace k1 := k1.of hn
  replace k2 := k2.of hn
  replace k3 := k3.of hn
  replace HB1 := Lib.hid (HB1.out.of hn)
  replace hb0 := hb0.trans (hn.mono hb0.size)
  clear hn
  have c2_0 : U4.cell? ⟨U2.heap.size, 0, none⟩ = some (.bool bn1) := k2.cell 0
  have c2_1 : U4.cell? ⟨U2.heap.size, 1, none⟩ = some (.slice ba1 bl1 bc1) := k2.cell 1
  have l2 := k2.lt
  go_wp2_with fail
  clear c2_0 c2_1 l2
  refine (bigMinus_v (.agg #[.bool bn1, .slice ba1 bl1 bc1]) a m 18 HP6.out _ HB1.out).mono ?_
  rintro e U5 ⟨v_, rfl, hbm, hn⟩
  replace k1 := k1.of hn
  replace k2 := k2.of hn
  replace k3 := k3.of hn
  replace HB1 := Lib.hid (HB1.out.of hn)
  replace hb0 := hb0.trans (hn.mono hb0.size)
  clear hn
  have HB2 := Lib.hid hbm
  have hvm := hbm.shape
  clear hbm
  obtain ⟨bn2, ba2, bl2, bc2, rfl⟩ := hvm
  have c1_0 : U5.cell? ⟨w.heap.size, 0, none⟩ = some (.int .u64 (wd0 a)) := k1.cell 0
  have c1_1 : U5.cell? ⟨w.heap.size, 1, none⟩ = some (.int .u64 (wd1 a)) := k1.cell 1
  have c1_2 : U5.cell? ⟨w.heap.size, 2, none⟩ = some (.int .u64 (wd2 a)) := k1.cell 2
  have c1_3 : U5.cell? ⟨w.heap.size, 3, none⟩ = some (.int .u64 (wd3 a)) := k1.cell 3
  have l1 := k1.lt
  have c3_0 : U5.cell? ⟨(U2.heap.size + 1), 0, none⟩ = some (.bool bn1) := k3.cell 0
  have c3_1 : U5.cell? ⟨(U2.heap.size + 1), 1, none⟩ = some (.slice ba1 bl1 bc1) := k3.cell 1
  have f3_0 := k3.free 0
  have f3_1 := k3.free 1
  have l3 := k3.lt
  have p1_3 : w.heap.size ≠ (U2.heap.size + 1) := (by have := D1.out; omega)
  go_wp2_with fail
  clear c1_0 c1_1 c1_2 c1_3 l1 c3_0 c3_1 f3_0 f3_1 l3 p1_3
  first | refine calls_w ?_ | refine name_world ?_ | refine list_world ?_ | refine post_world ?_
  intro V6 hV6
  have D3 := Lib.hid k1.lt
  have D4 := Lib.hid k2.lt
  have D5 := Lib.hid k3.lt
  have D6 := Lib.hid hb0.size
  have nk1 : Blk V6 w.heap.size #[.int .u64 (wd0 a), .int .u64 (wd1 a), .int .u64 (wd2 a), .int .u64 (wd3 a)] 24 := by rw [hV6]; exact (blk_setL k1 (by have := D1.out; omega) 0 [.bool bn2, .slice ba2 bl2 bc2])
  have nk2 : Blk V6 U2.heap.size #[.bool bn1, .slice ba1 bl1 bc1] 34 := by rw [hV6]; exact (blk_setL k2 (by omega) 0 [.bool bn2, .slice ba2 bl2 bc2])
  have nk3 : Blk V6 (U2.heap.size + 1) #[.bool bn2, .slice ba2 bl2 bc2] 34 := by rw [hV6]; exact (blk_full _ [.bool bn2, .slice ba2 bl2 bc2] k3 rfl)
  have nhb0 : Below w.heap.size w V6 := by rw [hV6]; exact (blw_setL hb0 (by have := D2.out; omega) 0 [.bool bn2, .slice ba2 bl2 bc2])
  replace HB1 : Hid (Big V6 (.agg #[.bool bn1, .slice ba1 bl1 bc1]) a 18) := Lib.hid (by rw [hV6]; exact (big_setL HB1.out (Blk.cell k3 0) (fun _ h => by cases h) 0 [.bool bn2, .slice ba2 bl2 bc2]))
  replace HB2 : Hid (Big V6 (.agg #[.bool bn2, .slice ba2 bl2 bc2]) m 18) := Lib.hid (by rw [hV6]; exact (big_setL HB2.out (Blk.cell k3 0) (fun _ h => by cases h) 0 [.bool bn2, .slice ba2 bl2 bc2]))
  clear k1 k2 k3
  clear hb0
  clear hV6
  have k1 := nk1
  clear nk1
  have k2 := nk2
  clear nk2
  have k3 := nk3
  clear nk3
  have hb0 := nhb0
  clear nhb0
  refine (Bits_v a k HP2.out _ia _).mono ?_
  rintro e U7 ⟨rfl, hn⟩
  replace k1 := k1.of hn
  replace k2 := k2.of hn
  replace k3 := k3.of hn
  replace HB1 := Lib.hid (HB1.out.of hn)
  replace HB2 := Lib.hid (HB2.out.of hn)
  replace hb0 := hb0.trans (hn.mono hb0.size)
  clear hn
  go_wp2_with fail
  have c3_0 : U7.cell? ⟨(U2.heap.size + 1), 0, none⟩ = some (.bool bn2) := k3.cell 0
  have c3_1 : U7.cell? ⟨(U2.heap.size + 1), 1, none⟩ = some (.slice ba2 bl2 bc2) := k3.cell 1
  have l3 := k3.lt
  have Kk1 := Lib.hid k1
  clear k1
  have Kk2 := Lib.hid k2
  clear k2
  have Kk3 := Lib.hid k3
  clear k3
  refine wp_region_up U7.heap.size 21 [(true, 0), (true, 1), (true, 2), (true, 3), (true, 4), (true, 5), (true, 6), (true, 7), (true, 8), (false, 9), (false, 10), (true, 11), (true, 12), (true, 13), (true, 14), (true, 15), (true, 16), (true, 17), (true, 18), (true, 19), (false, 20)] (by kernel_rfl) (by kernel_rfl) (fun _ _ d _ _ h => by cases d <;> exact h) ?_
  have hb : Below U7.heap.size U7 U7.drew := (Below.refl _ _).drew
  iterate 9
    refine wpS_takeL rfl rfl ?_
    go_big_quiet_step (rfl)
    refine wpQuiet_nil ?_
  refine wpS_doL rfl ?_
  intro K hK
  go_wp2_with ((first | (go_at_call 21; (with_reducible refine (powk_v k q _ik.out HP5.out _).mono ?_); rintro e w2 ⟨v_, rfl, hbm, hn⟩; have HB3 := Lib.hid hbm; have hvm := hbm.shape; clear hbm; obtain ⟨bn3, ba3, bl3, bc3, rfl⟩ := hvm) | (go_at_call 21; (with_reducible refine (powk_v (wrap64 (k - 1)) q2 (pw_in1 _ik.out (of_decide_eq_true hP9)) HP10.out _).mono ?_); rintro e w2 ⟨v_, rfl, hbm, hn⟩; replace HB3 := Lib.hid (HB3.out.of hn); have HB4 := Lib.hid hbm; have hvm := hbm.shape; clear hbm; obtain ⟨bn4, ba4, bl4, bc4, rfl⟩ := hvm)))
  try replace hb := hb.trans (hn.mono hb.size)
  refine hK.out _ _ (up_iff.2 hb) ?_
  clear hK K
  try clear hn
  refine wpS_doL rfl ?_
  intro K hK
  go_wp2_with ((go_at_call 20; (with_reducible refine (bigCmp_v (.agg #[.bool bn2, .slice ba2 bl2 bc2]) (.agg #[.bool bn3, .slice ba3 bl3 bc3]) m q 18 18 c1 HP7.out _ (HB2.out.of hb) HB3.out).mono ?_); rintro e w2 ⟨rfl, hn⟩; replace HB3 := Lib.hid (HB3.out.of hn)))
  try replace hb := hb.trans (hn.mono hb.size)
  refine hK.out _ _ (up_iff.2 hb) ?_
  clear hK K
  try clear hn
  iterate 9
    refine wpS_takeL rfl rfl ?_
    go_big_quiet_step (rfl)
    refine wpQuiet_nil ?_
  refine wpS_doL rfl ?_
  intro K hK
  go_wp2_with ((first | (go_at_call 21; (with_reducible refine (powk_v k q _ik.out HP5.out _).mono ?_); rintro e w2 ⟨v_, rfl, hbm, hn⟩; have HB3 := Lib.hid hbm; have hvm := hbm.shape; clear hbm; obtain ⟨bn3, ba3, bl3, bc3, rfl⟩ := hvm) | (go_at_call 21; (with_reducible refine (powk_v (wrap64 (k - 1)) q2 (pw_in1 _ik.out (of_decide_eq_true hP9)) HP10.out _).mono ?_); rintro e w2 ⟨v_, rfl, hbm, hn⟩; replace HB3 := Lib.hid (HB3.out.of hn); have HB4 := Lib.hid hbm; have hvm := hbm.shape; clear hbm; obtain ⟨bn4, ba4, bl4, bc4, rfl⟩ := hvm)))
  try replace hb := hb.trans (hn.mono hb.size)
  refine hK.out _ _ (up_iff.2 hb) ?_
  clear hK K
  try clear hn
  refine wpS_nil ?_
  simp only [List.drop_succ_cons, List.drop_zero]
  first | refine calls_w ?_ | refine name_world ?_ | refine list_world ?_ | refine post_world ?_
  intro U8 hU8
  first | (subst hU8; have u_ := U8; clear u_) | (rw [← hU8] at hb; clear hU8)
  clear c3_0 c3_1 l3
  have k1 := Kk1.out.of hb
  clear Kk1
  have k2 := Kk2.out.of hb
  clear Kk2
  have k3 := Kk3.out.of hb
  clear Kk3
  replace HB1 := Lib.hid (HB1.out.of hb)
  replace HB2 := Lib.hid (HB2.out.of hb)
  replace hb0 := hb0.trans (hb.mono hb0.size)
  clear hb
  go_wp2_with fail
  refine (bigCmp_v (.agg #[.bool bn2, .slice ba2 bl2 bc2]) (.agg #[.bool bn4, .slice ba4 bl4 bc4]) m q2 18 18 c2 HP11.out _ HB2.out HB4.out).mono ?_
  rintro e U9 ⟨rfl, hn⟩
  clear HB2 HB3 HB4
  clear k3
  replace k1 := k1.of hn
  replace k2 := k2.of hn
  replace HB1 := Lib.hid (HB1.out.of hn)
  replace hb0 := hb0.trans (hn.mono hb0.size)
  clear hn
  have c1_0 : U9.cell? ⟨w.heap.size, 0, none⟩ = some (.int .u64 (wd0 a)) := k1.cell 0
  have c1_1 : U9.cell? ⟨w.heap.size, 1, none⟩ = some (.int .u64 (wd1 a)) := k1.cell 1
  have c1_2 : U9.cell? ⟨w.heap.size, 2, none⟩ = some (.int .u64 (wd2 a)) := k1.cell 2
  have c1_3 : U9.cell? ⟨w.heap.size, 3, none⟩ = some (.int .u64 (wd3 a)) := k1.cell 3
  have l1 := k1.lt
  go_wp2_with fail
  clear c1_0 c1_1 c1_2 c1_3 l1
  refine (Root_v a 0 false HP13.out HP14.out _ia _).mono ?_
  rintro e U10 ⟨rfl, hn⟩
  replace k1 := k1.of hn
  replace k2 := k2.of hn
  replace HB1 := Lib.hid (HB1.out.of hn)
  replace hb0 := hb0.trans (hn.mono hb0.size)
  clear hn
  have c2_0 : U10.cell? ⟨U2.heap.size, 0, none⟩ = some (.bool bn1) := k2.cell 0
  have c2_1 : U10.cell? ⟨U2.heap.size, 1, none⟩ = some (.slice ba1 bl1 bc1) := k2.cell 1
  have l2 := k2.lt
  go_wp2_with fail
  clear c2_0 c2_1 l2
  first | refine calls_w ?_ | refine name_world ?_ | refine list_world ?_ | refine post_world ?_
  intro V11 hV11
  have D7 := Lib.hid k1.lt
  have D8 := Lib.hid k2.lt
  have D9 := Lib.hid hb0.size
  have hn : Below U10.heap.size U10 V11 := by rw [hV11]; exact below_a1 _ _
  have nk1 := k1.of hn
  have nk2 := k2.of hn
  replace HB1 := Lib.hid (HB1.out.of hn)
  have nhb0 := hb0.trans (hn.mono hb0.size)
  clear hn
  have k4 : Blk V11 U10.heap.size #[.int .u64 (wd0 0), .int .u64 (wd1 0), .int .u64 (wd2 0), .int .u64 (wd3 0)] 24 := by rw [hV11]; exact (Blk.new _ _ _)
  clear k1 k2
  clear hb0
  clear hV11
  have k1 := nk1
  clear nk1
  have k2 := nk2
  clear nk2
  have hb0 := nhb0
  clear nhb0
  refine (bigSign_v (.agg #[.bool bn1, .slice ba1 bl1 bc1]) a 18 s HP0.out _ HB1.out).mono ?_
  rintro e U12 ⟨rfl, hn⟩
  replace k1 := k1.of hn
  replace k2 := k2.of hn
  replace k4 := k4.of hn
  replace HB1 := Lib.hid (HB1.out.of hn)
  replace hb0 := hb0.trans (hn.mono hb0.size)
  clear hn
  have c1_0 : U12.cell? ⟨w.heap.size, 0, none⟩ = some (.int .u64 (wd0 a)) := k1.cell 0
  have c1_1 : U12.cell? ⟨w.heap.size, 1, none⟩ = some (.int .u64 (wd1 a)) := k1.cell 1
  have c1_2 : U12.cell? ⟨w.heap.size, 2, none⟩ = some (.int .u64 (wd2 a)) := k1.cell 2
  have c1_3 : U12.cell? ⟨w.heap.size, 3, none⟩ = some (.int .u64 (wd3 a)) := k1.cell 3
  have l1 := k1.lt
  have c4_0 : U12.cell? ⟨U10.heap.size, 0, none⟩ = some (.int .u64 (wd0 0)) := k4.cell 0
  have c4_1 : U12.cell? ⟨U10.heap.size, 1, none⟩ = some (.int .u64 (wd1 0)) := k4.cell 1
  have c4_2 : U12.cell? ⟨U10.heap.size, 2, none⟩ = some (.int .u64 (wd2 0)) := k4.cell 2
  have c4_3 : U12.cell? ⟨U10.heap.size, 3, none⟩ = some (.int .u64 (wd3 0)) := k4.cell 3
  have l4 := k4.lt
  go_wp2_with fail
  clear c1_0 c1_1 c1_2 c1_3 l1 c4_0 c4_1 c4_2 c4_3 l4
  refine (Power_v a n 0 false HP15.out HP16.out _ia _in _).mono ?_
  rintro e U13 ⟨rfl, hn⟩
  clear k1 k4
  replace k2 := k2.of hn
  replace HB1 := Lib.hid (HB1.out.of hn)
  replace hb0 := hb0.trans (hn.mono hb0.size)
  clear hn
  go_wp2_with fail
  first | refine calls_w ?_ | refine name_world ?_ | refine list_world ?_ | refine post_world ?_
  intro V14 hV14
  have D10 := Lib.hid k2.lt
  have D11 := Lib.hid hb0.size
  have hn : Below U13.heap.size U13 V14 := by rw [hV14]; exact below_a1 _ _
  have nk2 := k2.of hn
  replace HB1 := Lib.hid (HB1.out.of hn)
  have nhb0 := hb0.trans (hn.mono hb0.size)
  clear hn
  have k5 : Blk V14 U13.heap.size #[.int .u64 (wd0 0), .int .u64 (wd1 0), .int .u64 (wd2 0), .int .u64 (wd3 0)] 24 := by rw [hV14]; exact (Blk.new _ _ _)
  clear k2
  clear hb0
  clear hV14
  have k2 := nk2
  clear nk2
  have hb0 := nhb0
  clear nhb0
  refine (wawake_any _ (hG.of hb0)).mono ?_
  rintro e U15 ⟨rfl, hn⟩
  replace k2 := k2.of hn
  replace k5 := k5.of hn
  replace HB1 := Lib.hid (HB1.out.of hn)
  replace hb0 := hb0.trans (hn.mono hb0.size)
  clear hn
  go_wp2
  first | go_ret | go_ret2
  exact ⟨by first | rfl | (simp; done) | (simp; assumption), hb0⟩

set_option maxRecDepth 100000 in
set_option maxHeartbeats 4000000 in

theorem WRo_02 (a : Int) (n : Int) (s : Int) (k : Int) (q : Int) (m : Int) (c1 : Int) (q2 : Int) (c2 : Int) (p : Int)   (hP0 : a.sign = s) (hP1 : decide (s < 0) = true) (hP2 : btn a = k) (hP3 : decide (k < 0) = false) (hP4 : decide (256 < k) = false) (hP5 : 2 ^ k.toNat = q) (hP6 : -a = m) (hP7 : cmpI m q = c1) (hP8 : decide (0 ≤ c1) = false) (hP9 : decide (0 < k) = true) (hP10 : 2 ^ (wrap64 (k - 1)).toNat = q2) (hP11 : cmpI m q2 = c2) (hP12 : decide (c2 < 0) = false) (hP13 : rtv a = 0) (hP14 : rtk a = false) (hP15 : pwv a n = p) (hP16 : pwk a n = true) (hP17 : decide (n < 0) = false) (hP18 : decide (256 < n) = false) (_ik : Hid (0 ≤ k ∧ k ≤ 256)) (_ia : InI a) (_in : In64 n)  (w : World) (hG : Tab w) :
    Calls Tryd.prog 6 #[.agg #[.int .u64 (wd0 a), .int .u64 (wd1 a), .int .u64 (wd2 a), .int .u64 (wd3 a)], .int .i64 n] w fun e w' => e = .returned (.bool true) ∧ Below w.heap.size w w' := by

  have HP0 := Lib.hid hP0
  clear hP0
  have HP2 := Lib.hid hP2
  clear hP2
  have HP5 := Lib.hid hP5
  clear hP5
  have HP6 := Lib.hid hP6
  clear hP6
  have HP7 := Lib.hid hP7
  clear hP7
  have HP10 := Lib.hid hP10
  clear hP10
  have HP11 := Lib.hid hP11
  clear hP11
  have HP13 := Lib.hid hP13
  clear hP13
  have HP14 := Lib.hid hP14
  clear hP14
  have HP15 := Lib.hid hP15
  clear hP15
  have HP16 := Lib.hid hP16
  clear hP16
  go_enter Tryd.func6, Tryd.ntmps6
  go_wp2_with fail
  first | refine calls_w ?_ | refine name_world ?_ | refine list_world ?_ | refine post_world ?_
  intro V1 hV1
  have hn : Below w.heap.size w V1 := by rw [hV1]; exact below_a1 _ _
  have nhb0 := hn
  have k1 : Blk V1 w.heap.size #[.int .u64 (wd0 a), .int .u64 (wd1 a), .int .u64 (wd2 a), .int .u64 (wd3 a)] 24 := by rw [hV1]; exact (Blk.new _ _ _)
  clear hV1
  have hb0 := nhb0
  clear nhb0
  refine (Read_v a a rfl _ia _).mono ?_
  rintro e U2 ⟨v_, rfl, hbm, hn⟩
  replace k1 := k1.of hn
  replace hb0 := hb0.trans (hn.mono hb0.size)
  clear hn
  have HB1 := Lib.hid hbm
  have hvm := hbm.shape
  clear hbm
  obtain ⟨bn1, ba1, bl1, bc1, rfl⟩ := hvm
  go_wp2_with fail
  first | refine calls_w ?_ | refine name_world ?_ | refine list_world ?_ | refine post_world ?_
  intro V3 hV3
  have D1 := Lib.hid k1.lt
  have D2 := Lib.hid hb0.size
  have hn : Below U2.heap.size U2 V3 := by rw [hV3]; exact below_a2 _ _ _
  have nk1 := k1.of hn
  replace HB1 := Lib.hid (HB1.out.of hn)
  have nhb0 := hb0.trans (hn.mono hb0.size)
  clear hn
  have k2 : Blk V3 U2.heap.size #[.bool bn1, .slice ba1 bl1 bc1] 34 := by rw [hV3]; exact ((Blk.new _ _ _).alloc _)
  have k3 : Blk V3 (U2.heap.size + 1) #[.bool bn1, .slice ba1 bl1 bc1] 34 := by rw [hV3]; exact (Blk.new1 _ _ _ _)
  clear k1
  clear hb0
  clear hV3
  have k1 := nk1
  clear nk1
  have hb0 := nhb0
  clear nhb0
  refine (bigSign_v (.agg #[.bool bn1, .slice ba1 bl1 bc1]) a 18 s HP0.out _ HB1.out).mono ?_
  rintro e U4 ⟨rfl, hn⟩
  replace k1 := k1.of hn
  replace k2 := k2.of hn
  replace k3 := k3.of hn
  replace HB1 := Lib.hid (HB1.out.of hn)
  replace hb0 := hb0.trans (hn.mono hb0.size)
  clear hn
  have c2_0 : U4.cell? ⟨U2.heap.size, 0, none⟩ = some (.bool bn1) := k2.cell 0
  have c2_1 : U4.cell? ⟨U2.heap.size, 1, none⟩ = some (.slice ba1 bl1 bc1) := k2.cell 1
  have l2 := k2.lt
  go_wp2_with fail
  clear c2_0 c2_1 l2
  refine (bigMinus_v (.agg #[.bool bn1, .slice ba1 bl1 bc1]) a m 18 HP6.out _ HB1.out).mono ?_
  rintro e U5 ⟨v_, rfl, hbm, hn⟩
  replace k1 := k1.of hn
  replace k2 := k2.of hn
  replace k3 := k3.of hn
  replace HB1 := Lib.hid (HB1.out.of hn)
  replace hb0 := hb0.trans (hn.mono hb0.size)
  clear hn
  have HB2 := Lib.hid hbm
  have hvm := hbm.shape
  clear hbm
  obtain ⟨bn2, ba2, bl2, bc2, rfl⟩ := hvm
  have c1_0 : U5.cell? ⟨w.heap.size, 0, none⟩ = some (.int .u64 (wd0 a)) := k1.cell 0
  have c1_1 : U5.cell? ⟨w.heap.size, 1, none⟩ = some (.int .u64 (wd1 a)) := k1.cell 1
  have c1_2 : U5.cell? ⟨w.heap.size, 2, none⟩ = some (.int .u64 (wd2 a)) := k1.cell 2
  have c1_3 : U5.cell? ⟨w.heap.size, 3, none⟩ = some (.int .u64 (wd3 a)) := k1.cell 3
  have l1 := k1.lt
  have c3_0 : U5.cell? ⟨(U2.heap.size + 1), 0, none⟩ = some (.bool bn1) := k3.cell 0
  have c3_1 : U5.cell? ⟨(U2.heap.size + 1), 1, none⟩ = some (.slice ba1 bl1 bc1) := k3.cell 1
  have f3_0 := k3.free 0
  have f3_1 := k3.free 1
  have l3 := k3.lt
  have p1_3 : w.heap.size ≠ (U2.heap.size + 1) := (by have := D1.out; omega)
  go_wp2_with fail
  clear c1_0 c1_1 c1_2 c1_3 l1 c3_0 c3_1 f3_0 f3_1 l3 p1_3
  first | refine calls_w ?_ | refine name_world ?_ | refine list_world ?_ | refine post_world ?_
  intro V6 hV6
  have D3 := Lib.hid k1.lt
  have D4 := Lib.hid k2.lt
  have D5 := Lib.hid k3.lt
  have D6 := Lib.hid hb0.size
  have nk1 : Blk V6 w.heap.size #[.int .u64 (wd0 a), .int .u64 (wd1 a), .int .u64 (wd2 a), .int .u64 (wd3 a)] 24 := by rw [hV6]; exact (blk_setL k1 (by have := D1.out; omega) 0 [.bool bn2, .slice ba2 bl2 bc2])
  have nk2 : Blk V6 U2.heap.size #[.bool bn1, .slice ba1 bl1 bc1] 34 := by rw [hV6]; exact (blk_setL k2 (by omega) 0 [.bool bn2, .slice ba2 bl2 bc2])
  have nk3 : Blk V6 (U2.heap.size + 1) #[.bool bn2, .slice ba2 bl2 bc2] 34 := by rw [hV6]; exact (blk_full _ [.bool bn2, .slice ba2 bl2 bc2] k3 rfl)
  have nhb0 : Below w.heap.size w V6 := by rw [hV6]; exact (blw_setL hb0 (by have := D2.out; omega) 0 [.bool bn2, .slice ba2 bl2 bc2])
  replace HB1 : Hid (Big V6 (.agg #[.bool bn1, .slice ba1 bl1 bc1]) a 18) := Lib.hid (by rw [hV6]; exact (big_setL HB1.out (Blk.cell k3 0) (fun _ h => by cases h) 0 [.bool bn2, .slice ba2 bl2 bc2]))
  replace HB2 : Hid (Big V6 (.agg #[.bool bn2, .slice ba2 bl2 bc2]) m 18) := Lib.hid (by rw [hV6]; exact (big_setL HB2.out (Blk.cell k3 0) (fun _ h => by cases h) 0 [.bool bn2, .slice ba2 bl2 bc2]))
  clear k1 k2 k3
  clear hb0
  clear hV6
  have k1 := nk1
  clear nk1
  have k2 := nk2
  clear nk2
  have k3 := nk3
  clear nk3
  have hb0 := nhb0
  clear nhb0
  refine (Bits_v a k HP2.out _ia _).mono ?_
  rintro e U7 ⟨rfl, hn⟩
  replace k1 := k1.of hn
  replace k2 := k2.of hn
  replace k3 := k3.of hn
  replace HB1 := Lib.hid (HB1.out.of hn)
  replace HB2 := Lib.hid (HB2.out.of hn)
  replace hb0 := hb0.trans (hn.mono hb0.size)
  clear hn
  go_wp2_with fail
  have c3_0 : U7.cell? ⟨(U2.heap.size + 1), 0, none⟩ = some (.bool bn2) := k3.cell 0
  have c3_1 : U7.cell? ⟨(U2.heap.size + 1), 1, none⟩ = some (.slice ba2 bl2 bc2) := k3.cell 1
  have l3 := k3.lt
  have Kk1 := Lib.hid k1
  clear k1
  have Kk2 := Lib.hid k2
  clear k2
  have Kk3 := Lib.hid k3
  clear k3
  refine wp_region_up U7.heap.size 21 [(true, 0), (true, 1), (true, 2), (true, 3), (true, 4), (true, 5), (true, 6), (true, 7), (true, 8), (false, 9), (false, 10), (true, 11), (true, 12), (true, 13), (true, 14), (true, 15), (true, 16), (true, 17), (true, 18), (true, 19), (false, 20)] (by kernel_rfl) (by kernel_rfl) (fun _ _ d _ _ h => by cases d <;> exact h) ?_
  have hb : Below U7.heap.size U7 U7.drew := (Below.refl _ _).drew
  iterate 9
    refine wpS_takeL rfl rfl ?_
    go_big_quiet_step (rfl)
    refine wpQuiet_nil ?_
  refine wpS_doL rfl ?_
  intro K hK
  go_wp2_with ((first | (go_at_call 21; (with_reducible refine (powk_v k q _ik.out HP5.out _).mono ?_); rintro e w2 ⟨v_, rfl, hbm, hn⟩; have HB3 := Lib.hid hbm; have hvm := hbm.shape; clear hbm; obtain ⟨bn3, ba3, bl3, bc3, rfl⟩ := hvm) | (go_at_call 21; (with_reducible refine (powk_v (wrap64 (k - 1)) q2 (pw_in1 _ik.out (of_decide_eq_true hP9)) HP10.out _).mono ?_); rintro e w2 ⟨v_, rfl, hbm, hn⟩; replace HB3 := Lib.hid (HB3.out.of hn); have HB4 := Lib.hid hbm; have hvm := hbm.shape; clear hbm; obtain ⟨bn4, ba4, bl4, bc4, rfl⟩ := hvm)))
  try replace hb := hb.trans (hn.mono hb.size)
  refine hK.out _ _ (up_iff.2 hb) ?_
  clear hK K
  try clear hn
  refine wpS_doL rfl ?_
  intro K hK
  go_wp2_with ((go_at_call 20; (with_reducible refine (bigCmp_v (.agg #[.bool bn2, .slice ba2 bl2 bc2]) (.agg #[.bool bn3, .slice ba3 bl3 bc3]) m q 18 18 c1 HP7.out _ (HB2.out.of hb) HB3.out).mono ?_); rintro e w2 ⟨rfl, hn⟩; replace HB3 := Lib.hid (HB3.out.of hn)))
  try replace hb := hb.trans (hn.mono hb.size)
  refine hK.out _ _ (up_iff.2 hb) ?_
  clear hK K
  try clear hn
  iterate 9
    refine wpS_takeL rfl rfl ?_
    go_big_quiet_step (rfl)
    refine wpQuiet_nil ?_
  refine wpS_doL rfl ?_
  intro K hK
  go_wp2_with ((first | (go_at_call 21; (with_reducible refine (powk_v k q _ik.out HP5.out _).mono ?_); rintro e w2 ⟨v_, rfl, hbm, hn⟩; have HB3 := Lib.hid hbm; have hvm := hbm.shape; clear hbm; obtain ⟨bn3, ba3, bl3, bc3, rfl⟩ := hvm) | (go_at_call 21; (with_reducible refine (powk_v (wrap64 (k - 1)) q2 (pw_in1 _ik.out (of_decide_eq_true hP9)) HP10.out _).mono ?_); rintro e w2 ⟨v_, rfl, hbm, hn⟩; replace HB3 := Lib.hid (HB3.out.of hn); have HB4 := Lib.hid hbm; have hvm := hbm.shape; clear hbm; obtain ⟨bn4, ba4, bl4, bc4, rfl⟩ := hvm)))
  try replace hb := hb.trans (hn.mono hb.size)
  refine hK.out _ _ (up_iff.2 hb) ?_
  clear hK K
  try clear hn
  refine wpS_nil ?_
  simp only [List.drop_succ_cons, List.drop_zero]
  first | refine calls_w ?_ | refine name_world ?_ | refine list_world ?_ | refine post_world ?_
  intro U8 hU8
  first | (subst hU8; have u_ := U8; clear u_) | (rw [← hU8] at hb; clear hU8)
  clear c3_0 c3_1 l3
  have k1 := Kk1.out.of hb
  clear Kk1
  have k2 := Kk2.out.of hb
  clear Kk2
  have k3 := Kk3.out.of hb
  clear Kk3
  replace HB1 := Lib.hid (HB1.out.of hb)
  replace HB2 := Lib.hid (HB2.out.of hb)
  replace hb0 := hb0.trans (hb.mono hb0.size)
  clear hb
  go_wp2_with fail
  refine (bigCmp_v (.agg #[.bool bn2, .slice ba2 bl2 bc2]) (.agg #[.bool bn4, .slice ba4 bl4 bc4]) m q2 18 18 c2 HP11.out _ HB2.out HB4.out).mono ?_
  rintro e U9 ⟨rfl, hn⟩
  clear HB2 HB3 HB4
  clear k3
  replace k1 := k1.of hn
  replace k2 := k2.of hn
  replace HB1 := Lib.hid (HB1.out.of hn)
  replace hb0 := hb0.trans (hn.mono hb0.size)
  clear hn
  have c1_0 : U9.cell? ⟨w.heap.size, 0, none⟩ = some (.int .u64 (wd0 a)) := k1.cell 0
  have c1_1 : U9.cell? ⟨w.heap.size, 1, none⟩ = some (.int .u64 (wd1 a)) := k1.cell 1
  have c1_2 : U9.cell? ⟨w.heap.size, 2, none⟩ = some (.int .u64 (wd2 a)) := k1.cell 2
  have c1_3 : U9.cell? ⟨w.heap.size, 3, none⟩ = some (.int .u64 (wd3 a)) := k1.cell 3
  have l1 := k1.lt
  go_wp2_with fail
  clear c1_0 c1_1 c1_2 c1_3 l1
  refine (Root_v a 0 false HP13.out HP14.out _ia _).mono ?_
  rintro e U10 ⟨rfl, hn⟩
  replace k1 := k1.of hn
  replace k2 := k2.of hn
  replace HB1 := Lib.hid (HB1.out.of hn)
  replace hb0 := hb0.trans (hn.mono hb0.size)
  clear hn
  have c2_0 : U10.cell? ⟨U2.heap.size, 0, none⟩ = some (.bool bn1) := k2.cell 0
  have c2_1 : U10.cell? ⟨U2.heap.size, 1, none⟩ = some (.slice ba1 bl1 bc1) := k2.cell 1
  have l2 := k2.lt
  go_wp2_with fail
  clear c2_0 c2_1 l2
  first | refine calls_w ?_ | refine name_world ?_ | refine list_world ?_ | refine post_world ?_
  intro V11 hV11
  have D7 := Lib.hid k1.lt
  have D8 := Lib.hid k2.lt
  have D9 := Lib.hid hb0.size
  have hn : Below U10.heap.size U10 V11 := by rw [hV11]; exact below_a1 _ _
  have nk1 := k1.of hn
  have nk2 := k2.of hn
  replace HB1 := Lib.hid (HB1.out.of hn)
  have nhb0 := hb0.trans (hn.mono hb0.size)
  clear hn
  have k4 : Blk V11 U10.heap.size #[.int .u64 (wd0 0), .int .u64 (wd1 0), .int .u64 (wd2 0), .int .u64 (wd3 0)] 24 := by rw [hV11]; exact (Blk.new _ _ _)
  clear k1 k2
  clear hb0
  clear hV11
  have k1 := nk1
  clear nk1
  have k2 := nk2
  clear nk2
  have hb0 := nhb0
  clear nhb0
  refine (bigSign_v (.agg #[.bool bn1, .slice ba1 bl1 bc1]) a 18 s HP0.out _ HB1.out).mono ?_
  rintro e U12 ⟨rfl, hn⟩
  replace k1 := k1.of hn
  replace k2 := k2.of hn
  replace k4 := k4.of hn
  replace HB1 := Lib.hid (HB1.out.of hn)
  replace hb0 := hb0.trans (hn.mono hb0.size)
  clear hn
  have c1_0 : U12.cell? ⟨w.heap.size, 0, none⟩ = some (.int .u64 (wd0 a)) := k1.cell 0
  have c1_1 : U12.cell? ⟨w.heap.size, 1, none⟩ = some (.int .u64 (wd1 a)) := k1.cell 1
  have c1_2 : U12.cell? ⟨w.heap.size, 2, none⟩ = some (.int .u64 (wd2 a)) := k1.cell 2
  have c1_3 : U12.cell? ⟨w.heap.size, 3, none⟩ = some (.int .u64 (wd3 a)) := k1.cell 3
  have l1 := k1.lt
  have c4_0 : U12.cell? ⟨U10.heap.size, 0, none⟩ = some (.int .u64 (wd0 0)) := k4.cell 0
  have c4_1 : U12.cell? ⟨U10.heap.size, 1, none⟩ = some (.int .u64 (wd1 0)) := k4.cell 1
  have c4_2 : U12.cell? ⟨U10.heap.size, 2, none⟩ = some (.int .u64 (wd2 0)) := k4.cell 2
  have c4_3 : U12.cell? ⟨U10.heap.size, 3, none⟩ = some (.int .u64 (wd3 0)) := k4.cell 3
  have l4 := k4.lt
  go_wp2_with fail
  clear c1_0 c1_1 c1_2 c1_3 l1 c4_0 c4_1 c4_2 c4_3 l4
  refine (Power_v a n p true HP15.out HP16.out _ia _in _).mono ?_
  rintro e U13 ⟨rfl, hn⟩
  clear k1 k4
  replace k2 := k2.of hn
  replace HB1 := Lib.hid (HB1.out.of hn)
  replace hb0 := hb0.trans (hn.mono hb0.size)
  clear hn
  go_wp2_with fail
  first | refine calls_w ?_ | refine name_world ?_ | refine list_world ?_ | refine post_world ?_
  intro V14 hV14
  have D10 := Lib.hid k2.lt
  have D11 := Lib.hid hb0.size
  have hn : Below U13.heap.size U13 V14 := by rw [hV14]; exact below_a1 _ _
  have nk2 := k2.of hn
  replace HB1 := Lib.hid (HB1.out.of hn)
  have nhb0 := hb0.trans (hn.mono hb0.size)
  clear hn
  have k5 : Blk V14 U13.heap.size #[.int .u64 (wd0 p), .int .u64 (wd1 p), .int .u64 (wd2 p), .int .u64 (wd3 p)] 24 := by rw [hV14]; exact (Blk.new _ _ _)
  clear k2
  clear hb0
  clear hV14
  have k2 := nk2
  clear nk2
  have hb0 := nhb0
  clear nhb0
  refine (bigOf_v 1 1 rfl (by unfold In64; omega) _).mono ?_
  rintro e U15 ⟨v_, rfl, hbm, hn⟩
  replace k2 := k2.of hn
  replace k5 := k5.of hn
  replace HB1 := Lib.hid (HB1.out.of hn)
  replace hb0 := hb0.trans (hn.mono hb0.size)
  clear hn
  have HB5 := Lib.hid hbm
  have hvm := hbm.shape
  clear hbm
  obtain ⟨bn5, ba5, bl5, bc5, rfl⟩ := hvm
  go_wp2_with fail
  first | refine name_world ?_
  intro V16 hV16
  have D12 := Lib.hid k2.lt
  have D13 := Lib.hid k5.lt
  have D14 := Lib.hid hb0.size
  have hn : Below U15.heap.size U15 V16 := by rw [hV16]; exact below_a1 _ _
  have nk2 := k2.of hn
  have nk5 := k5.of hn
  replace HB1 := Lib.hid (HB1.out.of hn)
  replace HB5 := Lib.hid (HB5.out.of hn)
  have nhb0 := hb0.trans (hn.mono hb0.size)
  clear hn
  have k6 : Blk V16 U15.heap.size #[.bool bn5, .slice ba5 bl5 bc5] 34 := by rw [hV16]; exact (Blk.new _ _ _)
  clear k2 k5
  clear hb0
  clear hV16
  have k2 := nk2
  clear nk2
  have k5 := nk5
  clear nk5
  have hb0 := nhb0
  clear nhb0
  go_loopg [116] (n.toNat) (fun gk_ s1_0 wr => ∃ (o : Int) (k_ : Int) (wn : Bool) (wa : Option Addr) (wl wc : Nat), s1_0 = .int .i64 k_ ∧ Hid (PwI a n o k_ ∧ n - k_ ≤ (gk_ : Int)) ∧ Blk wr U2.heap.size #[.bool bn1, .slice ba1 bl1 bc1] 34 ∧ Blk wr U13.heap.size #[.int .u64 (wd0 p), .int .u64 (wd1 p), .int .u64 (wd2 p), .int .u64 (wd3 p)] 24 ∧ Blk wr U15.heap.size #[.bool wn, .slice wa wl wc] 34 ∧ Big wr (.agg #[.bool bn1, .slice ba1 bl1 bc1]) a 18 ∧ Big wr (.agg #[.bool wn, .slice wa wl wc]) o 18 ∧ Below w.heap.size w wr)
  case atStart =>
    have HIn : PwI a n 1 0 ∧ n - 0 ≤ ((n.toNat) : Int) := by
      exact ⟨PwI.begin (by simpa using hP17) (by simpa using hP18), by omega⟩
    exact ⟨1, 0, bn5, ba5, bl5, bc5, rfl, Lib.hid HIn, k2, k5, k6, HB1.out, (HB5.out.mono (by decide)), hb0⟩
  case round =>
    rename World => W1_
    rename Nat => gk1
    clear k2 k5 k6 HB1 HB5
    clear hb0
    obtain ⟨o, k_, wn, wa, wl, wc, rfl, HI1, k2, k5, k6, HB1_, HB6_, hb0⟩ := hrel
    have HB1 := Lib.hid HB1_
    clear HB1_
    have HB6 := Lib.hid HB6_
    clear HB6_
    obtain ⟨z1, hz1⟩ : ∃ o_o : Bool, decide (k_ < n) = o_o := ⟨_, rfl⟩
    cases z1
    · have c5_0 : W1_.cell? ⟨U13.heap.size, 0, none⟩ = some (.int .u64 (wd0 p)) := k5.cell 0
      have c5_1 : W1_.cell? ⟨U13.heap.size, 1, none⟩ = some (.int .u64 (wd1 p)) := k5.cell 1
      have c5_2 : W1_.cell? ⟨U13.heap.size, 2, none⟩ = some (.int .u64 (wd2 p)) := k5.cell 2
      have c5_3 : W1_.cell? ⟨U13.heap.size, 3, none⟩ = some (.int .u64 (wd3 p)) := k5.cell 3
      have l5 := k5.lt
      have c6_0 : W1_.cell? ⟨U15.heap.size, 0, none⟩ = some (.bool wn) := k6.cell 0
      have c6_1 : W1_.cell? ⟨U15.heap.size, 1, none⟩ = some (.slice wa wl wc) := k6.cell 1
      have l6 := k6.lt
      go_wp2_with fail
      clear c5_0 c5_1 c5_2 c5_3 l5 c6_0 c6_1 l6
      refine (told_is o p true (.agg #[.bool wn, .slice wa wl wc]) 18 (okI_t HI1.out.1.io) ((HI1.out.1.yes (of_decide_eq_false hz1)).2.symm.trans HP15.out) _ HB6.out).mono ?_
      rintro e U17 ⟨rfl, hn⟩
      clear HB1 HB6
      clear k2 k5 k6
      replace hb0 := hb0.trans (hn.mono hb0.size)
      clear hn
      go_wp2_with fail
      refine (wawake_any _ (hG.of hb0)).mono ?_
      rintro e U18 ⟨rfl, hn⟩
      replace hb0 := hb0.trans (hn.mono hb0.size)
      clear hn
      go_wp2
      first | go_ret | go_ret2
      exact ⟨by first | rfl | (simp; done) | (simp; assumption), hb0⟩
    · have c2_0 : W1_.cell? ⟨U2.heap.size, 0, none⟩ = some (.bool bn1) := k2.cell 0
      have c2_1 : W1_.cell? ⟨U2.heap.size, 1, none⟩ = some (.slice ba1 bl1 bc1) := k2.cell 1
      have l2 := k2.lt
      have c6_0 : W1_.cell? ⟨U15.heap.size, 0, none⟩ = some (.bool wn) := k6.cell 0
      have c6_1 : W1_.cell? ⟨U15.heap.size, 1, none⟩ = some (.slice wa wl wc) := k6.cell 1
      have l6 := k6.lt
      go_wp2_with fail
      clear c2_0 c2_1 l2 c6_0 c6_1 l6
      obtain ⟨r2, hr2⟩ : ∃ o_o : Int, o * a = o_o := ⟨_, rfl⟩
      have Hr2 := Lib.hid hr2
      clear hr2
      refine (bigMul_v (.agg #[.bool wn, .slice wa wl wc]) (.agg #[.bool bn1, .slice ba1 bl1 bc1]) o a r2 18 18 Hr2.out _ HB6.out HB1.out (by decide)).mono ?_
      rintro e U19 ⟨v_, rfl, hbm, hn⟩
      replace k2 := k2.of hn
      replace k5 := k5.of hn
      replace k6 := k6.of hn
      replace HB1 := Lib.hid (HB1.out.of hn)
      replace HB6 := Lib.hid (HB6.out.of hn)
      replace hb0 := hb0.trans (hn.mono hb0.size)
      clear hn
      have HB7 := Lib.hid hbm
      have hvm := hbm.shape
      clear hbm
      obtain ⟨bn7, ba7, bl7, bc7, rfl⟩ := hvm
      have c6_0 : U19.cell? ⟨U15.heap.size, 0, none⟩ = some (.bool wn) := k6.cell 0
      have c6_1 : U19.cell? ⟨U15.heap.size, 1, none⟩ = some (.slice wa wl wc) := k6.cell 1
      have f6_0 := k6.free 0
      have f6_1 := k6.free 1
      have l6 := k6.lt
      go_wp2_with fail
      clear c6_0 c6_1 f6_0 f6_1 l6
      first | refine calls_w ?_ | refine name_world ?_ | refine list_world ?_ | refine post_world ?_
      intro V20 hV20
      have D15 := Lib.hid k2.lt
      have D16 := Lib.hid k5.lt
      have D17 := Lib.hid k6.lt
      have D18 := Lib.hid hb0.size
      have nk2 : Blk V20 U2.heap.size #[.bool bn1, .slice ba1 bl1 bc1] 34 := by rw [hV20]; exact (blk_setL k2 (by have := D12.out; omega) 0 [.bool bn7, .slice ba7 bl7 bc7])
      have nk5 : Blk V20 U13.heap.size #[.int .u64 (wd0 p), .int .u64 (wd1 p), .int .u64 (wd2 p), .int .u64 (wd3 p)] 24 := by rw [hV20]; exact (blk_setL k5 (by have := D13.out; omega) 0 [.bool bn7, .slice ba7 bl7 bc7])
      have nk6 : Blk V20 U15.heap.size #[.bool bn7, .slice ba7 bl7 bc7] 34 := by rw [hV20]; exact (blk_full _ [.bool bn7, .slice ba7 bl7 bc7] k6 rfl)
      have nhb0 : Below w.heap.size w V20 := by rw [hV20]; exact (blw_setL hb0 (by have := D14.out; omega) 0 [.bool bn7, .slice ba7 bl7 bc7])
      replace HB1 : Hid (Big V20 (.agg #[.bool bn1, .slice ba1 bl1 bc1]) a 18) := Lib.hid (by rw [hV20]; exact (big_setL HB1.out (Blk.cell k6 0) (fun _ h => by cases h) 0 [.bool bn7, .slice ba7 bl7 bc7]))
      replace HB6 : Hid (Big V20 (.agg #[.bool wn, .slice wa wl wc]) o 18) := Lib.hid (by rw [hV20]; exact (big_setL HB6.out (Blk.cell k6 0) (fun _ h => by cases h) 0 [.bool bn7, .slice ba7 bl7 bc7]))
      replace HB7 : Hid (Big V20 (.agg #[.bool bn7, .slice ba7 bl7 bc7]) r2 36) := Lib.hid (by rw [hV20]; exact (big_setL HB7.out (Blk.cell k6 0) (fun _ h => by cases h) 0 [.bool bn7, .slice ba7 bl7 bc7]))
      clear k2 k5 k6
      clear hb0
      clear hV20
      have k2 := nk2
      clear nk2
      have k5 := nk5
      clear nk5
      have k6 := nk6
      clear nk6
      have hb0 := nhb0
      clear nhb0
      obtain ⟨z3, hz3⟩ : ∃ o_o : Bool, okI r2 = o_o := ⟨_, rfl⟩
      have Hz3 := Lib.hid hz3
      clear hz3
      refine (Fits_is (.agg #[.bool bn7, .slice ba7 bl7 bc7]) r2 36 z3 Hz3.out _ HB7.out).mono ?_
      rintro e U21 ⟨rfl, hn⟩
      replace k2 := k2.of hn
      replace k5 := k5.of hn
      replace k6 := k6.of hn
      replace HB1 := Lib.hid (HB1.out.of hn)
      replace HB6 := Lib.hid (HB6.out.of hn)
      replace HB7 := Lib.hid (HB7.out.of hn)
      replace hb0 := hb0.trans (hn.mono hb0.size)
      clear hn
      cases z3
      · exact absurd (HI1.out.1.no (of_decide_eq_true hz1) (by rw [Hr2.out]; exact Hz3.out)) (by rw [HP16.out]; decide)
      · go_wp2_with fail
        have HIn : PwI a n r2 (wrap64 (k_ + 1)) ∧ n - (wrap64 (k_ + 1)) ≤ (((n - (wrap64 (k_ + 1))).toNat) : Int) := by
          exact ⟨HI1.out.1.nextM (of_decide_eq_true hz1) Hr2.out (by rw [Hr2.out]; exact Hz3.out), by omega⟩
        go_roundg ((n - (wrap64 (k_ + 1))).toNat)
        case measure =>
          rw [HI1.out.1.w (of_decide_eq_true hz1)]
          have q_ := of_decide_eq_true hz1
          have q2_ := HI1.out.2
          omega
        case rel => exact ⟨r2, (wrap64 (k_ + 1)), bn7, ba7, bl7, bc7, rfl, Lib.hid HIn, k2, k5, k6, HB1.out, (fit_I HB7.out (by have := Hz3.out; unfold okI at this; exact of_decide_eq_true this)), hb0⟩

set_option maxRecDepth 100000 in
set_option maxHeartbeats 4000000 in

theorem WRo_03 (a : Int) (n : Int) (s : Int) (k : Int) (q : Int) (m : Int) (c1 : Int) (q2 : Int) (c2 : Int)   (hP0 : a.sign = s) (hP1 : decide (s < 0) = true) (hP2 : btn a = k) (hP3 : decide (k < 0) = false) (hP4 : decide (256 < k) = false) (hP5 : 2 ^ k.toNat = q) (hP6 : -a = m) (hP7 : cmpI m q = c1) (hP8 : decide (0 ≤ c1) = false) (hP9 : decide (0 < k) = true) (hP10 : 2 ^ (wrap64 (k - 1)).toNat = q2) (hP11 : cmpI m q2 = c2) (hP12 : decide (c2 < 0) = false) (hP13 : rtv a = 0) (hP14 : rtk a = false) (hP15 : pwv a n = 0) (hP16 : pwk a n = false) (hP17 : decide (n < 0) = false) (hP18 : decide (256 < n) = false) (_ik : Hid (0 ≤ k ∧ k ≤ 256)) (_ia : InI a) (_in : In64 n)  (w : World) (hG : Tab w) :
    Calls Tryd.prog 6 #[.agg #[.int .u64 (wd0 a), .int .u64 (wd1 a), .int .u64 (wd2 a), .int .u64 (wd3 a)], .int .i64 n] w fun e w' => e = .returned (.bool true) ∧ Below w.heap.size w w' := by

  have HP0 := Lib.hid hP0
  clear hP0
  have HP2 := Lib.hid hP2
  clear hP2
  have HP5 := Lib.hid hP5
  clear hP5
  have HP6 := Lib.hid hP6
  clear hP6
  have HP7 := Lib.hid hP7
  clear hP7
  have HP10 := Lib.hid hP10
  clear hP10
  have HP11 := Lib.hid hP11
  clear hP11
  have HP13 := Lib.hid hP13
  clear hP13
  have HP14 := Lib.hid hP14
  clear hP14
  have HP15 := Lib.hid hP15
  clear hP15
  have HP16 := Lib.hid hP16
  clear hP16
  go_enter Tryd.func6, Tryd.ntmps6
  go_wp2_with fail
  first | refine calls_w ?_ | refine name_world ?_ | refine list_world ?_ | refine post_world ?_
  intro V1 hV1
  have hn : Below w.heap.size w V1 := by rw [hV1]; exact below_a1 _ _
  have nhb0 := hn
  have k1 : Blk V1 w.heap.size #[.int .u64 (wd0 a), .int .u64 (wd1 a), .int .u64 (wd2 a), .int .u64 (wd3 a)] 24 := by rw [hV1]; exact (Blk.new _ _ _)
  clear hV1
  have hb0 := nhb0
  clear nhb0
  refine (Read_v a a rfl _ia _).mono ?_
  rintro e U2 ⟨v_, rfl, hbm, hn⟩
  replace k1 := k1.of hn
  replace hb0 := hb0.trans (hn.mono hb0.size)
  clear hn
  have HB1 := Lib.hid hbm
  have hvm := hbm.shape
  clear hbm
  obtain ⟨bn1, ba1, bl1, bc1, rfl⟩ := hvm
  go_wp2_with fail
  first | refine calls_w ?_ | refine name_world ?_ | refine list_world ?_ | refine post_world ?_
  intro V3 hV3
  have D1 := Lib.hid k1.lt
  have D2 := Lib.hid hb0.size
  have hn : Below U2.heap.size U2 V3 := by rw [hV3]; exact below_a2 _ _ _
  have nk1 := k1.of hn
  replace HB1 := Lib.hid (HB1.out.of hn)
  have nhb0 := hb0.trans (hn.mono hb0.size)
  clear hn
  have k2 : Blk V3 U2.heap.size #[.bool bn1, .slice ba1 bl1 bc1] 34 := by rw [hV3]; exact ((Blk.new _ _ _).alloc _)
  have k3 : Blk V3 (U2.heap.size + 1) #[.bool bn1, .slice ba1 bl1 bc1] 34 := by rw [hV3]; exact (Blk.new1 _ _ _ _)
  clear k1
  clear hb0
  clear hV3
  have k1 := nk1
  clear nk1
  have hb0 := nhb0
  clear nhb0
  refine (bigSign_v (.agg #[.bool bn1, .slice ba1 bl1 bc1]) a 18 s HP0.out _ HB1.out).mono ?_
  rintro e U4 ⟨rfl, hn⟩
  replace k1 := k1.of hn
  replace k2 := k2.of hn
  replace k3 := k3.of hn
  replace HB1 := Lib.hid (HB1.out.of hn)
  replace hb0 := hb0.trans (hn.mono hb0.size)
  clear hn
  have c2_0 : U4.cell? ⟨U2.heap.size, 0, none⟩ = some (.bool bn1) := k2.cell 0
  have c2_1 : U4.cell? ⟨U2.heap.size, 1, none⟩ = some (.slice ba1 bl1 bc1) := k2.cell 1
  have l2 := k2.lt
  go_wp2_with fail
  clear c2_0 c2_1 l2
  refine (bigMinus_v (.agg #[.bool bn1, .slice ba1 bl1 bc1]) a m 18 HP6.out _ HB1.out).mono ?_
  rintro e U5 ⟨v_, rfl, hbm, hn⟩
  replace k1 := k1.of hn
  replace k2 := k2.of hn
  replace k3 := k3.of hn
  replace HB1 := Lib.hid (HB1.out.of hn)
  replace hb0 := hb0.trans (hn.mono hb0.size)
  clear hn
  have HB2 := Lib.hid hbm
  have hvm := hbm.shape
  clear hbm
  obtain ⟨bn2, ba2, bl2, bc2, rfl⟩ := hvm
  have c1_0 : U5.cell? ⟨w.heap.size, 0, none⟩ = some (.int .u64 (wd0 a)) := k1.cell 0
  have c1_1 : U5.cell? ⟨w.heap.size, 1, none⟩ = some (.int .u64 (wd1 a)) := k1.cell 1
  have c1_2 : U5.cell? ⟨w.heap.size, 2, none⟩ = some (.int .u64 (wd2 a)) := k1.cell 2
  have c1_3 : U5.cell? ⟨w.heap.size, 3, none⟩ = some (.int .u64 (wd3 a)) := k1.cell 3
  have l1 := k1.lt
  have c3_0 : U5.cell? ⟨(U2.heap.size + 1), 0, none⟩ = some (.bool bn1) := k3.cell 0
  have c3_1 : U5.cell? ⟨(U2.heap.size + 1), 1, none⟩ = some (.slice ba1 bl1 bc1) := k3.cell 1
  have f3_0 := k3.free 0
  have f3_1 := k3.free 1
  have l3 := k3.lt
  have p1_3 : w.heap.size ≠ (U2.heap.size + 1) := (by have := D1.out; omega)
  go_wp2_with fail
  clear c1_0 c1_1 c1_2 c1_3 l1 c3_0 c3_1 f3_0 f3_1 l3 p1_3
  first | refine calls_w ?_ | refine name_world ?_ | refine list_world ?_ | refine post_world ?_
  intro V6 hV6
  have D3 := Lib.hid k1.lt
  have D4 := Lib.hid k2.lt
  have D5 := Lib.hid k3.lt
  have D6 := Lib.hid hb0.size
  have nk1 : Blk V6 w.heap.size #[.int .u64 (wd0 a), .int .u64 (wd1 a), .int .u64 (wd2 a), .int .u64 (wd3 a)] 24 := by rw [hV6]; exact (blk_setL k1 (by have := D1.out; omega) 0 [.bool bn2, .slice ba2 bl2 bc2])
  have nk2 : Blk V6 U2.heap.size #[.bool bn1, .slice ba1 bl1 bc1] 34 := by rw [hV6]; exact (blk_setL k2 (by omega) 0 [.bool bn2, .slice ba2 bl2 bc2])
  have nk3 : Blk V6 (U2.heap.size + 1) #[.bool bn2, .slice ba2 bl2 bc2] 34 := by rw [hV6]; exact (blk_full _ [.bool bn2, .slice ba2 bl2 bc2] k3 rfl)
  have nhb0 : Below w.heap.size w V6 := by rw [hV6]; exact (blw_setL hb0 (by have := D2.out; omega) 0 [.bool bn2, .slice ba2 bl2 bc2])
  replace HB1 : Hid (Big V6 (.agg #[.bool bn1, .slice ba1 bl1 bc1]) a 18) := Lib.hid (by rw [hV6]; exact (big_setL HB1.out (Blk.cell k3 0) (fun _ h => by cases h) 0 [.bool bn2, .slice ba2 bl2 bc2]))
  replace HB2 : Hid (Big V6 (.agg #[.bool bn2, .slice ba2 bl2 bc2]) m 18) := Lib.hid (by rw [hV6]; exact (big_setL HB2.out (Blk.cell k3 0) (fun _ h => by cases h) 0 [.bool bn2, .slice ba2 bl2 bc2]))
  clear k1 k2 k3
  clear hb0
  clear hV6
  have k1 := nk1
  clear nk1
  have k2 := nk2
  clear nk2
  have k3 := nk3
  clear nk3
  have hb0 := nhb0
  clear nhb0
  refine (Bits_v a k HP2.out _ia _).mono ?_
  rintro e U7 ⟨rfl, hn⟩
  replace k1 := k1.of hn
  replace k2 := k2.of hn
  replace k3 := k3.of hn
  replace HB1 := Lib.hid (HB1.out.of hn)
  replace HB2 := Lib.hid (HB2.out.of hn)
  replace hb0 := hb0.trans (hn.mono hb0.size)
  clear hn
  go_wp2_with fail
  have c3_0 : U7.cell? ⟨(U2.heap.size + 1), 0, none⟩ = some (.bool bn2) := k3.cell 0
  have c3_1 : U7.cell? ⟨(U2.heap.size + 1), 1, none⟩ = some (.slice ba2 bl2 bc2) := k3.cell 1
  have l3 := k3.lt
  have Kk1 := Lib.hid k1
  clear k1
  have Kk2 := Lib.hid k2
  clear k2
  have Kk3 := Lib.hid k3
  clear k3
  refine wp_region_up U7.heap.size 21 [(true, 0), (true, 1), (true, 2), (true, 3), (true, 4), (true, 5), (true, 6), (true, 7), (true, 8), (false, 9), (false, 10), (true, 11), (true, 12), (true, 13), (true, 14), (true, 15), (true, 16), (true, 17), (true, 18), (true, 19), (false, 20)] (by kernel_rfl) (by kernel_rfl) (fun _ _ d _ _ h => by cases d <;> exact h) ?_
  have hb : Below U7.heap.size U7 U7.drew := (Below.refl _ _).drew
  iterate 9
    refine wpS_takeL rfl rfl ?_
    go_big_quiet_step (rfl)
    refine wpQuiet_nil ?_
  refine wpS_doL rfl ?_
  intro K hK
  go_wp2_with ((first | (go_at_call 21; (with_reducible refine (powk_v k q _ik.out HP5.out _).mono ?_); rintro e w2 ⟨v_, rfl, hbm, hn⟩; have HB3 := Lib.hid hbm; have hvm := hbm.shape; clear hbm; obtain ⟨bn3, ba3, bl3, bc3, rfl⟩ := hvm) | (go_at_call 21; (with_reducible refine (powk_v (wrap64 (k - 1)) q2 (pw_in1 _ik.out (of_decide_eq_true hP9)) HP10.out _).mono ?_); rintro e w2 ⟨v_, rfl, hbm, hn⟩; replace HB3 := Lib.hid (HB3.out.of hn); have HB4 := Lib.hid hbm; have hvm := hbm.shape; clear hbm; obtain ⟨bn4, ba4, bl4, bc4, rfl⟩ := hvm)))
  try replace hb := hb.trans (hn.mono hb.size)
  refine hK.out _ _ (up_iff.2 hb) ?_
  clear hK K
  try clear hn
  refine wpS_doL rfl ?_
  intro K hK
  go_wp2_with ((go_at_call 20; (with_reducible refine (bigCmp_v (.agg #[.bool bn2, .slice ba2 bl2 bc2]) (.agg #[.bool bn3, .slice ba3 bl3 bc3]) m q 18 18 c1 HP7.out _ (HB2.out.of hb) HB3.out).mono ?_); rintro e w2 ⟨rfl, hn⟩; replace HB3 := Lib.hid (HB3.out.of hn)))
  try replace hb := hb.trans (hn.mono hb.size)
  refine hK.out _ _ (up_iff.2 hb) ?_
  clear hK K
  try clear hn
  iterate 9
    refine wpS_takeL rfl rfl ?_
    go_big_quiet_step (rfl)
    refine wpQuiet_nil ?_
  refine wpS_doL rfl ?_
  intro K hK
  go_wp2_with ((first | (go_at_call 21; (with_reducible refine (powk_v k q _ik.out HP5.out _).mono ?_); rintro e w2 ⟨v_, rfl, hbm, hn⟩; have HB3 := Lib.hid hbm; have hvm := hbm.shape; clear hbm; obtain ⟨bn3, ba3, bl3, bc3, rfl⟩ := hvm) | (go_at_call 21; (with_reducible refine (powk_v (wrap64 (k - 1)) q2 (pw_in1 _ik.out (of_decide_eq_true hP9)) HP10.out _).mono ?_); rintro e w2 ⟨v_, rfl, hbm, hn⟩; replace HB3 := Lib.hid (HB3.out.of hn); have HB4 := Lib.hid hbm; have hvm := hbm.shape; clear hbm; obtain ⟨bn4, ba4, bl4, bc4, rfl⟩ := hvm)))
  try replace hb := hb.trans (hn.mono hb.size)
  refine hK.out _ _ (up_iff.2 hb) ?_
  clear hK K
  try clear hn
  refine wpS_nil ?_
  simp only [List.drop_succ_cons, List.drop_zero]
  first | refine calls_w ?_ | refine name_world ?_ | refine list_world ?_ | refine post_world ?_
  intro U8 hU8
  first | (subst hU8; have u_ := U8; clear u_) | (rw [← hU8] at hb; clear hU8)
  clear c3_0 c3_1 l3
  have k1 := Kk1.out.of hb
  clear Kk1
  have k2 := Kk2.out.of hb
  clear Kk2
  have k3 := Kk3.out.of hb
  clear Kk3
  replace HB1 := Lib.hid (HB1.out.of hb)
  replace HB2 := Lib.hid (HB2.out.of hb)
  replace hb0 := hb0.trans (hb.mono hb0.size)
  clear hb
  go_wp2_with fail
  refine (bigCmp_v (.agg #[.bool bn2, .slice ba2 bl2 bc2]) (.agg #[.bool bn4, .slice ba4 bl4 bc4]) m q2 18 18 c2 HP11.out _ HB2.out HB4.out).mono ?_
  rintro e U9 ⟨rfl, hn⟩
  clear HB2 HB3 HB4
  clear k3
  replace k1 := k1.of hn
  replace k2 := k2.of hn
  replace HB1 := Lib.hid (HB1.out.of hn)
  replace hb0 := hb0.trans (hn.mono hb0.size)
  clear hn
  have c1_0 : U9.cell? ⟨w.heap.size, 0, none⟩ = some (.int .u64 (wd0 a)) := k1.cell 0
  have c1_1 : U9.cell? ⟨w.heap.size, 1, none⟩ = some (.int .u64 (wd1 a)) := k1.cell 1
  have c1_2 : U9.cell? ⟨w.heap.size, 2, none⟩ = some (.int .u64 (wd2 a)) := k1.cell 2
  have c1_3 : U9.cell? ⟨w.heap.size, 3, none⟩ = some (.int .u64 (wd3 a)) := k1.cell 3
  have l1 := k1.lt
  go_wp2_with fail
  clear c1_0 c1_1 c1_2 c1_3 l1
  refine (Root_v a 0 false HP13.out HP14.out _ia _).mono ?_
  rintro e U10 ⟨rfl, hn⟩
  replace k1 := k1.of hn
  replace k2 := k2.of hn
  replace HB1 := Lib.hid (HB1.out.of hn)
  replace hb0 := hb0.trans (hn.mono hb0.size)
  clear hn
  have c2_0 : U10.cell? ⟨U2.heap.size, 0, none⟩ = some (.bool bn1) := k2.cell 0
  have c2_1 : U10.cell? ⟨U2.heap.size, 1, none⟩ = some (.slice ba1 bl1 bc1) := k2.cell 1
  have l2 := k2.lt
  go_wp2_with fail
  clear c2_0 c2_1 l2
  first | refine calls_w ?_ | refine name_world ?_ | refine list_world ?_ | refine post_world ?_
  intro V11 hV11
  have D7 := Lib.hid k1.lt
  have D8 := Lib.hid k2.lt
  have D9 := Lib.hid hb0.size
  have hn : Below U10.heap.size U10 V11 := by rw [hV11]; exact below_a1 _ _
  have nk1 := k1.of hn
  have nk2 := k2.of hn
  replace HB1 := Lib.hid (HB1.out.of hn)
  have nhb0 := hb0.trans (hn.mono hb0.size)
  clear hn
  have k4 : Blk V11 U10.heap.size #[.int .u64 (wd0 0), .int .u64 (wd1 0), .int .u64 (wd2 0), .int .u64 (wd3 0)] 24 := by rw [hV11]; exact (Blk.new _ _ _)
  clear k1 k2
  clear hb0
  clear hV11
  have k1 := nk1
  clear nk1
  have k2 := nk2
  clear nk2
  have hb0 := nhb0
  clear nhb0
  refine (bigSign_v (.agg #[.bool bn1, .slice ba1 bl1 bc1]) a 18 s HP0.out _ HB1.out).mono ?_
  rintro e U12 ⟨rfl, hn⟩
  replace k1 := k1.of hn
  replace k2 := k2.of hn
  replace k4 := k4.of hn
  replace HB1 := Lib.hid (HB1.out.of hn)
  replace hb0 := hb0.trans (hn.mono hb0.size)
  clear hn
  have c1_0 : U12.cell? ⟨w.heap.size, 0, none⟩ = some (.int .u64 (wd0 a)) := k1.cell 0
  have c1_1 : U12.cell? ⟨w.heap.size, 1, none⟩ = some (.int .u64 (wd1 a)) := k1.cell 1
  have c1_2 : U12.cell? ⟨w.heap.size, 2, none⟩ = some (.int .u64 (wd2 a)) := k1.cell 2
  have c1_3 : U12.cell? ⟨w.heap.size, 3, none⟩ = some (.int .u64 (wd3 a)) := k1.cell 3
  have l1 := k1.lt
  have c4_0 : U12.cell? ⟨U10.heap.size, 0, none⟩ = some (.int .u64 (wd0 0)) := k4.cell 0
  have c4_1 : U12.cell? ⟨U10.heap.size, 1, none⟩ = some (.int .u64 (wd1 0)) := k4.cell 1
  have c4_2 : U12.cell? ⟨U10.heap.size, 2, none⟩ = some (.int .u64 (wd2 0)) := k4.cell 2
  have c4_3 : U12.cell? ⟨U10.heap.size, 3, none⟩ = some (.int .u64 (wd3 0)) := k4.cell 3
  have l4 := k4.lt
  go_wp2_with fail
  clear c1_0 c1_1 c1_2 c1_3 l1 c4_0 c4_1 c4_2 c4_3 l4
  refine (Power_v a n 0 false HP15.out HP16.out _ia _in _).mono ?_
  rintro e U13 ⟨rfl, hn⟩
  clear k1 k4
  replace k2 := k2.of hn
  replace HB1 := Lib.hid (HB1.out.of hn)
  replace hb0 := hb0.trans (hn.mono hb0.size)
  clear hn
  go_wp2_with fail
  first | refine calls_w ?_ | refine name_world ?_ | refine list_world ?_ | refine post_world ?_
  intro V14 hV14
  have D10 := Lib.hid k2.lt
  have D11 := Lib.hid hb0.size
  have hn : Below U13.heap.size U13 V14 := by rw [hV14]; exact below_a1 _ _
  have nk2 := k2.of hn
  replace HB1 := Lib.hid (HB1.out.of hn)
  have nhb0 := hb0.trans (hn.mono hb0.size)
  clear hn
  have k5 : Blk V14 U13.heap.size #[.int .u64 (wd0 0), .int .u64 (wd1 0), .int .u64 (wd2 0), .int .u64 (wd3 0)] 24 := by rw [hV14]; exact (Blk.new _ _ _)
  clear k2
  clear hb0
  clear hV14
  have k2 := nk2
  clear nk2
  have hb0 := nhb0
  clear nhb0
  refine (bigOf_v 1 1 rfl (by unfold In64; omega) _).mono ?_
  rintro e U15 ⟨v_, rfl, hbm, hn⟩
  replace k2 := k2.of hn
  replace k5 := k5.of hn
  replace HB1 := Lib.hid (HB1.out.of hn)
  replace hb0 := hb0.trans (hn.mono hb0.size)
  clear hn
  have HB5 := Lib.hid hbm
  have hvm := hbm.shape
  clear hbm
  obtain ⟨bn5, ba5, bl5, bc5, rfl⟩ := hvm
  go_wp2_with fail
  first | refine name_world ?_
  intro V16 hV16
  have D12 := Lib.hid k2.lt
  have D13 := Lib.hid k5.lt
  have D14 := Lib.hid hb0.size
  have hn : Below U15.heap.size U15 V16 := by rw [hV16]; exact below_a1 _ _
  have nk2 := k2.of hn
  have nk5 := k5.of hn
  replace HB1 := Lib.hid (HB1.out.of hn)
  replace HB5 := Lib.hid (HB5.out.of hn)
  have nhb0 := hb0.trans (hn.mono hb0.size)
  clear hn
  have k6 : Blk V16 U15.heap.size #[.bool bn5, .slice ba5 bl5 bc5] 34 := by rw [hV16]; exact (Blk.new _ _ _)
  clear k2 k5
  clear hb0
  clear hV16
  have k2 := nk2
  clear nk2
  have k5 := nk5
  clear nk5
  have hb0 := nhb0
  clear nhb0
  go_loopg [116] (n.toNat) (fun gk_ s1_0 wr => ∃ (o : Int) (k_ : Int) (wn : Bool) (wa : Option Addr) (wl wc : Nat), s1_0 = .int .i64 k_ ∧ Hid (PwI a n o k_ ∧ n - k_ ≤ (gk_ : Int)) ∧ Blk wr U2.heap.size #[.bool bn1, .slice ba1 bl1 bc1] 34 ∧ Blk wr U13.heap.size #[.int .u64 (wd0 0), .int .u64 (wd1 0), .int .u64 (wd2 0), .int .u64 (wd3 0)] 24 ∧ Blk wr U15.heap.size #[.bool wn, .slice wa wl wc] 34 ∧ Big wr (.agg #[.bool bn1, .slice ba1 bl1 bc1]) a 18 ∧ Big wr (.agg #[.bool wn, .slice wa wl wc]) o 18 ∧ Below w.heap.size w wr)
  case atStart =>
    have HIn : PwI a n 1 0 ∧ n - 0 ≤ ((n.toNat) : Int) := by
      exact ⟨PwI.begin (by simpa using hP17) (by simpa using hP18), by omega⟩
    exact ⟨1, 0, bn5, ba5, bl5, bc5, rfl, Lib.hid HIn, k2, k5, k6, HB1.out, (HB5.out.mono (by decide)), hb0⟩
  case round =>
    rename World => W1_
    rename Nat => gk1
    clear k2 k5 k6 HB1 HB5
    clear hb0
    obtain ⟨o, k_, wn, wa, wl, wc, rfl, HI1, k2, k5, k6, HB1_, HB6_, hb0⟩ := hrel
    have HB1 := Lib.hid HB1_
    clear HB1_
    have HB6 := Lib.hid HB6_
    clear HB6_
    obtain ⟨z1, hz1⟩ : ∃ o_o : Bool, decide (k_ < n) = o_o := ⟨_, rfl⟩
    cases z1
    · exact absurd (HI1.out.1.yes (of_decide_eq_false hz1)).1 (by rw [HP16.out]; decide)
    · have c2_0 : W1_.cell? ⟨U2.heap.size, 0, none⟩ = some (.bool bn1) := k2.cell 0
      have c2_1 : W1_.cell? ⟨U2.heap.size, 1, none⟩ = some (.slice ba1 bl1 bc1) := k2.cell 1
      have l2 := k2.lt
      have c6_0 : W1_.cell? ⟨U15.heap.size, 0, none⟩ = some (.bool wn) := k6.cell 0
      have c6_1 : W1_.cell? ⟨U15.heap.size, 1, none⟩ = some (.slice wa wl wc) := k6.cell 1
      have l6 := k6.lt
      go_wp2_with fail
      clear c2_0 c2_1 l2 c6_0 c6_1 l6
      obtain ⟨r2, hr2⟩ : ∃ o_o : Int, o * a = o_o := ⟨_, rfl⟩
      have Hr2 := Lib.hid hr2
      clear hr2
      refine (bigMul_v (.agg #[.bool wn, .slice wa wl wc]) (.agg #[.bool bn1, .slice ba1 bl1 bc1]) o a r2 18 18 Hr2.out _ HB6.out HB1.out (by decide)).mono ?_
      rintro e U17 ⟨v_, rfl, hbm, hn⟩
      replace k2 := k2.of hn
      replace k5 := k5.of hn
      replace k6 := k6.of hn
      replace HB1 := Lib.hid (HB1.out.of hn)
      replace HB6 := Lib.hid (HB6.out.of hn)
      replace hb0 := hb0.trans (hn.mono hb0.size)
      clear hn
      have HB7 := Lib.hid hbm
      have hvm := hbm.shape
      clear hbm
      obtain ⟨bn7, ba7, bl7, bc7, rfl⟩ := hvm
      have c6_0 : U17.cell? ⟨U15.heap.size, 0, none⟩ = some (.bool wn) := k6.cell 0
      have c6_1 : U17.cell? ⟨U15.heap.size, 1, none⟩ = some (.slice wa wl wc) := k6.cell 1
      have f6_0 := k6.free 0
      have f6_1 := k6.free 1
      have l6 := k6.lt
      go_wp2_with fail
      clear c6_0 c6_1 f6_0 f6_1 l6
      first | refine calls_w ?_ | refine name_world ?_ | refine list_world ?_ | refine post_world ?_
      intro V18 hV18
      have D15 := Lib.hid k2.lt
      have D16 := Lib.hid k5.lt
      have D17 := Lib.hid k6.lt
      have D18 := Lib.hid hb0.size
      have nk2 : Blk V18 U2.heap.size #[.bool bn1, .slice ba1 bl1 bc1] 34 := by rw [hV18]; exact (blk_setL k2 (by have := D12.out; omega) 0 [.bool bn7, .slice ba7 bl7 bc7])
      have nk5 : Blk V18 U13.heap.size #[.int .u64 (wd0 0), .int .u64 (wd1 0), .int .u64 (wd2 0), .int .u64 (wd3 0)] 24 := by rw [hV18]; exact (blk_setL k5 (by have := D13.out; omega) 0 [.bool bn7, .slice ba7 bl7 bc7])
      have nk6 : Blk V18 U15.heap.size #[.bool bn7, .slice ba7 bl7 bc7] 34 := by rw [hV18]; exact (blk_full _ [.bool bn7, .slice ba7 bl7 bc7] k6 rfl)
      have nhb0 : Below w.heap.size w V18 := by rw [hV18]; exact (blw_setL hb0 (by have := D14.out; omega) 0 [.bool bn7, .slice ba7 bl7 bc7])
      replace HB1 : Hid (Big V18 (.agg #[.bool bn1, .slice ba1 bl1 bc1]) a 18) := Lib.hid (by rw [hV18]; exact (big_setL HB1.out (Blk.cell k6 0) (fun _ h => by cases h) 0 [.bool bn7, .slice ba7 bl7 bc7]))
      replace HB6 : Hid (Big V18 (.agg #[.bool wn, .slice wa wl wc]) o 18) := Lib.hid (by rw [hV18]; exact (big_setL HB6.out (Blk.cell k6 0) (fun _ h => by cases h) 0 [.bool bn7, .slice ba7 bl7 bc7]))
      replace HB7 : Hid (Big V18 (.agg #[.bool bn7, .slice ba7 bl7 bc7]) r2 36) := Lib.hid (by rw [hV18]; exact (big_setL HB7.out (Blk.cell k6 0) (fun _ h => by cases h) 0 [.bool bn7, .slice ba7 bl7 bc7]))
      clear k2 k5 k6
      clear hb0
      clear hV18
      have k2 := nk2
      clear nk2
      have k5 := nk5
      clear nk5
      have k6 := nk6
      clear nk6
      have hb0 := nhb0
      clear nhb0
      obtain ⟨z3, hz3⟩ : ∃ o_o : Bool, okI r2 = o_o := ⟨_, rfl⟩
      have Hz3 := Lib.hid hz3
      clear hz3
      refine (Fits_is (.agg #[.bool bn7, .slice ba7 bl7 bc7]) r2 36 z3 Hz3.out _ HB7.out).mono ?_
      rintro e U19 ⟨rfl, hn⟩
      replace k2 := k2.of hn
      replace k5 := k5.of hn
      replace k6 := k6.of hn
      replace HB1 := Lib.hid (HB1.out.of hn)
      replace HB6 := Lib.hid (HB6.out.of hn)
      replace HB7 := Lib.hid (HB7.out.of hn)
      replace hb0 := hb0.trans (hn.mono hb0.size)
      clear hn
      cases z3
      · have c5_0 : U19.cell? ⟨U13.heap.size, 0, none⟩ = some (.int .u64 (wd0 0)) := k5.cell 0
        have c5_1 : U19.cell? ⟨U13.heap.size, 1, none⟩ = some (.int .u64 (wd1 0)) := k5.cell 1
        have c5_2 : U19.cell? ⟨U13.heap.size, 2, none⟩ = some (.int .u64 (wd2 0)) := k5.cell 2
        have c5_3 : U19.cell? ⟨U13.heap.size, 3, none⟩ = some (.int .u64 (wd3 0)) := k5.cell 3
        have l5 := k5.lt
        go_wp2_with fail
        clear c5_0 c5_1 c5_2 c5_3 l5
        refine (wawake_any _ (hG.of hb0)).mono ?_
        rintro e U20 ⟨rfl, hn⟩
        replace k2 := k2.of hn
        replace k5 := k5.of hn
        replace k6 := k6.of hn
        replace HB1 := Lib.hid (HB1.out.of hn)
        replace HB6 := Lib.hid (HB6.out.of hn)
        replace HB7 := Lib.hid (HB7.out.of hn)
        replace hb0 := hb0.trans (hn.mono hb0.size)
        clear hn
        go_wp2
        first | go_ret | go_ret2
        exact ⟨by first | rfl | (simp; done) | (simp; assumption), hb0⟩
      · go_wp2_with fail
        have HIn : PwI a n r2 (wrap64 (k_ + 1)) ∧ n - (wrap64 (k_ + 1)) ≤ (((n - (wrap64 (k_ + 1))).toNat) : Int) := by
          exact ⟨HI1.out.1.nextM (of_decide_eq_true hz1) Hr2.out (by rw [Hr2.out]; exact Hz3.out), by omega⟩
        go_roundg ((n - (wrap64 (k_ + 1))).toNat)
        case measure =>
          rw [HI1.out.1.w (of_decide_eq_true hz1)]
          have q_ := of_decide_eq_true hz1
          have q2_ := HI1.out.2
          omega
        case rel => exact ⟨r2, (wrap64 (k_ + 1)), bn7, ba7, bl7, bc7, rfl, Lib.hid HIn, k2, k5, k6, HB1.out, (fit_I HB7.out (by have := Hz3.out; unfold okI at this; exact of_decide_eq_true this)), hb0⟩
end Go.Proofs.YtcfiemeknocgjaaDoor

