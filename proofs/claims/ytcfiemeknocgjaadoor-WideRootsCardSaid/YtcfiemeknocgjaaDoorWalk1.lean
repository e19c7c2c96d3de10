/- The walks of package wide's small functions: each computes what its name says, on the four words. Conditions: words are words. -/
import Derived.Test.YtcfiemeknocgjaaDoorProg
import Derived.Test.YtcfiemeknocgjaaDoorBlk
import Derived.WalkKit
import Derived.WalkSpells
import Derived.StillTactics
import Derived.Laws.Pointers
import Derived.Deep.RegionHeld3
import Derived.RowKit3
import Derived.Deep.QuietTactic
import Derived.BigQuiet
import Derived.BigRegion
namespace Go.Proofs.YtcfiemeknocgjaaDoor
open Go.RowKit


theorem bcell {W w1 : World} (hb : Below W.heap.size W w1) : (∀ b o, b < W.heap.size → w1.cell? ⟨b, o, none⟩ = W.cell? ⟨b, o, none⟩) ∧ (∀ b o, b < W.heap.size → w1.frozen? ⟨b, o, none⟩ = W.frozen? ⟨b, o, none⟩) :=
  ⟨fun b o h => hb.cell (p := ⟨b, o, none⟩) h, fun b o h => hb.frozen (p := ⟨b, o, none⟩) h⟩

theorem add64 (x y c : Int) (hx : Wd x) (hy : Wd y) (hc0 : 0 ≤ c) (hc : c ≤ 1) (w : World) : (callFunc 50 #[.int .u64 x, .int .u64 y, .int .u64 c]).run Tryd.prog w =
    .ok (.value (.tuple #[.int .u64 ((x + y + c) % 18446744073709551616), .int .u64 ((x + y + c) / 18446744073709551616)])) w := by
  obtain ⟨hx, hx'⟩ := hx
  obtain ⟨hy, hy'⟩ := hy
  obtain ⟨x, rfl⟩ := Int.eq_ofNat_of_zero_le hx
  obtain ⟨y, rfl⟩ := Int.eq_ofNat_of_zero_le hy
  obtain ⟨c, rfl⟩ := Int.eq_ofNat_of_zero_le hc0
  rw [run_callFunc_extern Tryd.func50 (by kernel_rfl) (by kernel_rfl) (by kernel_rfl) (e := add64Entry) (by kernel_rfl), run_add64 x y c (by omega) (by omega) (by omega) (by omega)]
  simp only [Result.andThen]


set_option maxRecDepth 100000 in
set_option maxHeartbeats 1000000 in
theorem plus_raw (a0 a1 a2 a3 b0 b1 b2 b3 c : Int) (w : World) (ha0 : Wd a0) (ha1 : Wd a1) (ha2 : Wd a2) (ha3 : Wd a3) (hb0 : Wd b0) (hb1 : Wd b1) (hb2 : Wd b2) (hb3 : Wd b3) (hc0 : 0 ≤ c) (hc1 : c ≤ 1) :
    Calls Tryd.prog 34 #[.agg #[.int .u64 a0, .int .u64 a1, .int .u64 a2, .int .u64 a3], .agg #[.int .u64 b0, .int .u64 b1, .int .u64 b2, .int .u64 b3], .int .u64 c] w fun e w' =>
      e = .returned (.agg #[.int .u64 ((a0 + b0 + c) % 18446744073709551616), .int .u64 ((a1 + b1 + (a0 + b0 + c) / 18446744073709551616) % 18446744073709551616),
        .int .u64 ((a2 + b2 + (a1 + b1 + (a0 + b0 + c) / 18446744073709551616) / 18446744073709551616) % 18446744073709551616),
        .int .u64 ((a3 + b3 + (a2 + b2 + (a1 + b1 + (a0 + b0 + c) / 18446744073709551616) / 18446744073709551616) / 18446744073709551616) % 18446744073709551616)]) ∧ Below w.heap.size w w' := by
  obtain ⟨g0, g0'⟩ := ha0
  obtain ⟨g1, g1'⟩ := ha1
  obtain ⟨g2, g2'⟩ := ha2
  obtain ⟨g3, g3'⟩ := ha3
  obtain ⟨h0, h0'⟩ := hb0
  obtain ⟨h1, h1'⟩ := hb1
  obtain ⟨h2, h2'⟩ := hb2
  obtain ⟨h3, h3'⟩ := hb3
  have k0 := fun w => add64 a0 b0 c ⟨g0, g0'⟩ ⟨h0, h0'⟩ hc0 hc1 w
  have k1 := fun w => add64 a1 b1 ((a0 + b0 + c) / 18446744073709551616) ⟨g1, g1'⟩ ⟨h1, h1'⟩ (by omega) (by omega) w
  have k2 := fun w => add64 a2 b2 ((a1 + b1 + (a0 + b0 + c) / 18446744073709551616) / 18446744073709551616) ⟨g2, g2'⟩ ⟨h2, h2'⟩ (by omega) (by omega) w
  have k3 := fun w => add64 a3 b3 ((a2 + b2 + (a1 + b1 + (a0 + b0 + c) / 18446744073709551616) / 18446744073709551616) / 18446744073709551616) ⟨g3, g3'⟩ ⟨h3, h3'⟩ (by omega) (by omega) w
  clear g0 g0' g1 g1' g2 g2' g3 g3' h0 h0' h1 h1' h2 h2' h3 h3' hc0 hc1
  go_enter Tryd.func34, Tryd.ntmps34
  go_wp2
  refine wp_loop_rounds 5 ?_
  rw [rounds_succ]
  go_wp2
  go_region
  go_wp2
  rw [rounds_succ]
  go_wp2
  go_region
  go_wp2
  rw [rounds_succ]
  go_wp2
  go_region
  go_wp2
  rw [rounds_succ]
  go_wp2
  go_region
  go_wp2
  rw [rounds_succ]
  go_wp2
  simp [bodyPost, results, Tryd.results34, go_sem]
  exact ((((((((Below.refl _ _).alloc (Nat.le_refl _) _).alloc (by simp) _).alloc (by simp; omega) _).alloc (by simp; omega) _).drew).drew).drew).drew

/-- plus: the sum of the bits of two, with one more, or not -/
theorem plus_any (x y c : Int) (w : World) (hc0 : 0 ≤ c) (hc1 : c ≤ 1) :
    Calls Tryd.prog 34 #[wI x, wI y, .int .u64 c] w fun e w' => e = .returned (wI (x + y + c)) ∧ Below w.heap.size w w' := by
  refine (plus_raw _ _ _ _ _ _ _ _ c w (wd0_Wd x) (wd1_Wd x) (wd2_Wd x) (wd3_Wd x) (wd0_Wd y) (wd1_Wd y) (wd2_Wd y) (wd3_Wd y) hc0 hc1).mono fun e w' ⟨he, hw⟩ => ⟨?_, hw⟩
  rw [he, ← plus_wd0, ← plus_wd1, ← plus_wd2, ← plus_wd3]

theorem negative_raw (a b c d : Int) (w : World) (hd : Wd d) :
    Calls Tryd.prog 33 #[.agg #[.int .u64 a, .int .u64 b, .int .u64 c, .int .u64 d]] w fun e w' =>
      e = .returned (.bool (d / 9223372036854775808 != 0)) ∧ Below w.heap.size w w' := by
  obtain ⟨h1, h2⟩ := hd
  go_enter Tryd.func33, Tryd.ntmps33
  go_wp2
  go_ret
  exact ⟨rfl, (Below.refl _ _).alloc (Nat.le_refl _) _⟩
end Go.Proofs.YtcfiemeknocgjaaDoor
