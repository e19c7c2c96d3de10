/- gromalaw04.CrossSides is true. Conditions: the numbers are ints and numbers of 256 bits. -/
import Derived.Test.YtlcbomjdbdgbmaaCrL2
import Derived.Test.YtlcbomjdbdgbmaaCrN2
namespace Go.Proofs.Ytlcbomjdbdgbmaa
open Go.RowKit

theorem CSides_any (ax ay bx b_y x y v : Int) (h1 : In64 ax) (h2 : In64 ay) (h3 : In64 bx) (h4 : In64 b_y) (i1 : InI x) (i2 : InI y) (i3 : InI v) (w : World) :
    Calls Try.prog 14 #[.agg #[.int .i64 ax, .int .i64 ay, .int .i64 bx, .int .i64 b_y], .agg #[.int .u64 (wd0 x), .int .u64 (wd1 x), .int .u64 (wd2 x), .int .u64 (wd3 x), .int .u64 (wd0 y), .int .u64 (wd1 y), .int .u64 (wd2 y), .int .u64 (wd3 y), .int .u64 (wd0 v), .int .u64 (wd1 v), .int .u64 (wd2 v), .int .u64 (wd3 v)]] w fun e w' => e = .returned (.bool true) ∧ Below w.heap.size w w' := by
  cases hs : sgR ax ay bx b_y
  · exact CSides_1 ax ay bx b_y x y v (rspR x y v) rfl rfl rfl hs (Sde_0 (.inl hs)) (hld_0 (.inl hs)) (spR_eq x y v) rfl h1 h2 h3 h4 i1 i2 i3 w
  · cases hp : rspR x y v
    · exact CSides_2 ax ay bx b_y x y v rfl rfl rfl hs (Sde_0 (.inr hp)) (hld_0 (.inr hp)) ((spR_eq x y v).trans hp) hp h1 h2 h3 h4 i1 i2 i3 w
    · have T := Sde_eq hs hp
      cases hh : ahd bx b_y ax ay
      · obtain ⟨e1, e2, e3, e4⟩ := ends_f hh
        rw [e1, e2, e3, e4] at T
        exact CSides_3 ax ay bx b_y x y v _ _ rfl rfl rfl hs ((spR_eq x y v).trans hp) hp e1 e2 e3 e4 rfl rfl rfl rfl hh T rfl (hld_eq hs hp) rfl h1 h2 h3 h4 i1 i2 i3 w
      · obtain ⟨e1, e2, e3, e4⟩ := ends_t hh
        rw [e1, e2, e3, e4] at T
        exact CSides_4 ax ay bx b_y x y v _ _ rfl rfl rfl hs ((spR_eq x y v).trans hp) hp e1 e2 e3 e4 rfl rfl rfl rfl (ahd_asym hh) T rfl (hld_eq hs hp) rfl h1 h2 h3 h4 i1 i2 i3 w
end Go.Proofs.Ytlcbomjdbdgbmaa
