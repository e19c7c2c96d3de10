/- The walk of package wide's Bits. Conditions: the number is one of 256 bits. -/
import Derived.Test.YtcfiemeknocgjaaDoorMul2
import Derived.Shelf.Lay
import Derived.Shelf.LaySoft
import Derived.Shelf.Small.Bits
import Derived.Laws.MathBits
namespace Go.Proofs.YtcfiemeknocgjaaDoor
open Go.RowKit Go.Shelf

shelf_lay Lays.n129 Nm 129 at Tryd as Tryd.lays129
theorem Len64_any (x : Int) (w : World) (h0 : 0 ≤ x) (h1 : x < 18446744073709551616) :
    Calls Tryd.prog 41 #[.int .u64 x] w fun e w' => e = .returned (.int .i64 (Lib.bitLen x.toNat)) ∧ w' = w := Any.bits_Len64 Tryd.lays129 x w h0 (by omega)

set_option maxRecDepth 100000 in
set_option maxHeartbeats 1000000 in
theorem Bits_3 (x : Int) (a0 a1 a2 a3 : Int) (n : ¬ a3 = 0) (h : 0 ≤ a3 ∧ a3 < 18446744073709551616) (r : Int) (hr : IntKind.i64.wrap (192 + (Lib.bitLen a3.toNat : Int)) = r) (w : World) (hs : ∀ w, Calls Tryd.prog 28 #[wI x] w fun e w' => e = .returned (.agg #[.int .u64 a0, .int .u64 a1, .int .u64 a2, .int .u64 a3]) ∧ Below w.heap.size w w') :
    Calls Tryd.prog 19 #[wI x] w fun e w' => e = .returned (.int .i64 r) ∧ Below w.heap.size w w' := by
  have HH := Lib.hid h
  clear h
  have HS := Lib.hid hs
  clear hs
  go_enter Tryd.func19, Tryd.ntmps19
  go_wp2_with fail
  refine calls_w ?_
  intro W0 hW0
  have hb0 : Below w.heap.size w W0 := by rw [hW0]; exact (Below.refl _ _).alloc (Nat.le_refl _) _
  clear hW0
  refine (HS.out _).mono ?_
  rintro e w1 ⟨rfl, hb1⟩
  replace hb0 := hb0.trans (hb1.mono hb0.size)
  clear hb1 HS
  go_wp2_with fail
  refine wp_loop_rounds 5 ?_
  rw [rounds_succ]
  go_wp2_with fail
  refine (Len64_any a3 _ HH.out.1 HH.out.2).mono ?_
  rintro e w2 ⟨rfl, rfl⟩
  go_wp2
  simp [bodyPost, results, Tryd.results19, go_sem]
  exact hb0.alloc hb0.size _

set_option maxRecDepth 100000 in
set_option maxHeartbeats 1000000 in
theorem Bits_2 (x : Int) (a0 a1 a2 : Int) (n : ¬ a2 = 0) (h : 0 ≤ a2 ∧ a2 < 18446744073709551616) (r : Int) (hr : IntKind.i64.wrap (128 + (Lib.bitLen a2.toNat : Int)) = r) (w : World) (hs : ∀ w, Calls Tryd.prog 28 #[wI x] w fun e w' => e = .returned (.agg #[.int .u64 a0, .int .u64 a1, .int .u64 a2, .int .u64 0]) ∧ Below w.heap.size w w') :
    Calls Tryd.prog 19 #[wI x] w fun e w' => e = .returned (.int .i64 r) ∧ Below w.heap.size w w' := by
  have HH := Lib.hid h
  clear h
  have HS := Lib.hid hs
  clear hs
  go_enter Tryd.func19, Tryd.ntmps19
  go_wp2_with fail
  refine calls_w ?_
  intro W0 hW0
  have hb0 : Below w.heap.size w W0 := by rw [hW0]; exact (Below.refl _ _).alloc (Nat.le_refl _) _
  clear hW0
  refine (HS.out _).mono ?_
  rintro e w1 ⟨rfl, hb1⟩
  replace hb0 := hb0.trans (hb1.mono hb0.size)
  clear hb1 HS
  go_wp2_with fail
  refine wp_loop_rounds 5 ?_
  rw [rounds_succ]
  go_wp2_with fail
  rw [rounds_succ]
  go_wp2_with fail
  refine (Len64_any a2 _ HH.out.1 HH.out.2).mono ?_
  rintro e w2 ⟨rfl, rfl⟩
  go_wp2
  simp [bodyPost, results, Tryd.results19, go_sem]
  exact hb0.alloc hb0.size _

set_option maxRecDepth 100000 in
set_option maxHeartbeats 1000000 in
theorem Bits_1 (x : Int) (a0 a1 : Int) (n : ¬ a1 = 0) (h : 0 ≤ a1 ∧ a1 < 18446744073709551616) (r : Int) (hr : IntKind.i64.wrap (64 + (Lib.bitLen a1.toNat : Int)) = r) (w : World) (hs : ∀ w, Calls Tryd.prog 28 #[wI x] w fun e w' => e = .returned (.agg #[.int .u64 a0, .int .u64 a1, .int .u64 0, .int .u64 0]) ∧ Below w.heap.size w w') :
    Calls Tryd.prog 19 #[wI x] w fun e w' => e = .returned (.int .i64 r) ∧ Below w.heap.size w w' := by
  have HH := Lib.hid h
  clear h
  have HS := Lib.hid hs
  clear hs
  go_enter Tryd.func19, Tryd.ntmps19
  go_wp2_with fail
  refine calls_w ?_
  intro W0 hW0
  have hb0 : Below w.heap.size w W0 := by rw [hW0]; exact (Below.refl _ _).alloc (Nat.le_refl _) _
  clear hW0
  refine (HS.out _).mono ?_
  rintro e w1 ⟨rfl, hb1⟩
  replace hb0 := hb0.trans (hb1.mono hb0.size)
  clear hb1 HS
  go_wp2_with fail
  refine wp_loop_rounds 5 ?_
  rw [rounds_succ]
  go_wp2_with fail
  rw [rounds_succ]
  go_wp2_with fail
  rw [rounds_succ]
  go_wp2_with fail
  refine (Len64_any a1 _ HH.out.1 HH.out.2).mono ?_
  rintro e w2 ⟨rfl, rfl⟩
  go_wp2
  simp [bodyPost, results, Tryd.results19, go_sem]
  exact hb0.alloc hb0.size _

set_option maxRecDepth 100000 in
set_option maxHeartbeats 1000000 in
theorem Bits_0 (x : Int) (a0 : Int) (n : ¬ a0 = 0) (h : 0 ≤ a0 ∧ a0 < 18446744073709551616) (r : Int) (hr : IntKind.i64.wrap ((Lib.bitLen a0.toNat : Int)) = r) (w : World) (hs : ∀ w, Calls Tryd.prog 28 #[wI x] w fun e w' => e = .returned (.agg #[.int .u64 a0, .int .u64 0, .int .u64 0, .int .u64 0]) ∧ Below w.heap.size w w') :
    Calls Tryd.prog 19 #[wI x] w fun e w' => e = .returned (.int .i64 r) ∧ Below w.heap.size w w' := by
  have HH := Lib.hid h
  clear h
  have HS := Lib.hid hs
  clear hs
  go_enter Tryd.func19, Tryd.ntmps19
  go_wp2_with fail
  refine calls_w ?_
  intro W0 hW0
  have hb0 : Below w.heap.size w W0 := by rw [hW0]; exact (Below.refl _ _).alloc (Nat.le_refl _) _
  clear hW0
  refine (HS.out _).mono ?_
  rintro e w1 ⟨rfl, hb1⟩
  replace hb0 := hb0.trans (hb1.mono hb0.size)
  clear hb1 HS
  go_wp2_with fail
  refine wp_loop_rounds 5 ?_
  rw [rounds_succ]
  go_wp2_with fail
  rw [rounds_succ]
  go_wp2_with fail
  rw [rounds_succ]
  go_wp2_with fail
  rw [rounds_succ]
  go_wp2_with fail
  refine (Len64_any a0 _ HH.out.1 HH.out.2).mono ?_
  rintro e w2 ⟨rfl, rfl⟩
  go_wp2
  simp [bodyPost, results, Tryd.results19, go_sem]
  exact hb0.alloc hb0.size _

set_option maxRecDepth 100000 in
set_option maxHeartbeats 1000000 in
theorem Bits_z (x : Int)   (w : World) (hs : ∀ w, Calls Tryd.prog 28 #[wI x] w fun e w' => e = .returned (.agg #[.int .u64 0, .int .u64 0, .int .u64 0, .int .u64 0]) ∧ Below w.heap.size w w') :
    Calls Tryd.prog 19 #[wI x] w fun e w' => e = .returned (.int .i64 0) ∧ Below w.heap.size w w' := by
  have HS := Lib.hid hs
  clear hs
  go_enter Tryd.func19, Tryd.ntmps19
  go_wp2_with fail
  refine calls_w ?_
  intro W0 hW0
  have hb0 : Below w.heap.size w W0 := by rw [hW0]; exact (Below.refl _ _).alloc (Nat.le_refl _) _
  clear hW0
  refine (HS.out _).mono ?_
  rintro e w1 ⟨rfl, hb1⟩
  replace hb0 := hb0.trans (hb1.mono hb0.size)
  clear hb1 HS
  go_wp2_with fail
  refine wp_loop_rounds 5 ?_
  rw [rounds_succ]
  go_wp2_with fail
  rw [rounds_succ]
  go_wp2_with fail
  rw [rounds_succ]
  go_wp2_with fail
  rw [rounds_succ]
  go_wp2_with fail
  rw [rounds_succ]
  go_wp2
  simp [bodyPost, results, Tryd.results19, go_sem]
  exact hb0.alloc hb0.size _

end Go.Proofs.YtcfiemeknocgjaaDoor
