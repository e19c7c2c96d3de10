/- Calls of strconv.FormatUint at known numbers. Conditions: the table of powers lies as laid. -/
import Derived.Test.YtcfiemeknocgjaaDoorFmt1
import Derived.Test.YtcfiemeknocgjaaDoorBig11
import Derived.Laws.BytesArg
namespace Go.Proofs.YtcfiemeknocgjaaDoor
open Go.RowKit

set_option maxRecDepth 100000 in
set_option maxHeartbeats 1000000 in
theorem fmtC (w : World) (hG : Tab w) : Calls Tryd.prog 51 #[.int .u64 893488147419103232, .int .i64 10] w fun e w' => e = .returned (.string ⟨#[56, 57, 51, 52, 56, 56, 49, 52, 55, 52, 49, 57, 49, 48, 51, 50, 51, 50]⟩) ∧ Below w.heap.size w w' := by
  go_enter Tryd.func51, Tryd.ntmps51
  go_wp2_with fail
  refine calls_w ?_
  intro W hW
  have k : Blk W w.heap.size #[.int .u8 0, .int .u8 0, .int .u8 0, .int .u8 0, .int .u8 0, .int .u8 0, .int .u8 0, .int .u8 0, .int .u8 0, .int .u8 0, .int .u8 0, .int .u8 0, .int .u8 0, .int .u8 0, .int .u8 0, .int .u8 0, .int .u8 0, .int .u8 0, .int .u8 0, .int .u8 0, .int .u8 0, .int .u8 0, .int .u8 0, .int .u8 0] 77 := by rw [hW]; exact Blk.new _ _ _
  have hb0 : Below w.heap.size w W := by rw [hW]; exact below_a1 _ _
  clear hW
  refine (nd_c _ (hG.of hb0)).mono ?_
  rintro e u1 ⟨rfl, hn⟩
  replace k := k.of hn
  replace hb0 := hb0.trans (hn.mono hb0.size)
  clear hn
  go_wp2_with fail
  refine (base10_c w.heap.size _ k).mono ?_
  rintro e u2 ⟨rfl, k2, hn⟩
  replace hb0 := hb0.trans hn
  clear hn k
  have hcv := run_convert_bytes_arg (P := Tryd.prog) u2 79 5 Tryd.underlying79 Tryd.underlying5 w.heap.size 0 18 24 [56, 57, 51, 52, 56, 56, 49, 52, 55, 52, 49, 57, 49, 48, 51, 50, 51, 50] rfl (fun i hi => by
    rw [Nat.zero_add]
    match i, hi with
    | 0, _ => exact k2.cell 0
    | 1, _ => exact k2.cell 1
    | 2, _ => exact k2.cell 2
    | 3, _ => exact k2.cell 3
    | 4, _ => exact k2.cell 4
    | 5, _ => exact k2.cell 5
    | 6, _ => exact k2.cell 6
    | 7, _ => exact k2.cell 7
    | 8, _ => exact k2.cell 8
    | 9, _ => exact k2.cell 9
    | 10, _ => exact k2.cell 10
    | 11, _ => exact k2.cell 11
    | 12, _ => exact k2.cell 12
    | 13, _ => exact k2.cell 13
    | 14, _ => exact k2.cell 14
    | 15, _ => exact k2.cell 15
    | 16, _ => exact k2.cell 16
    | 17, _ => exact k2.cell 17
    | n + 18, h => omega) 9 Tryd.underlying9
  have lk := k2.lt
  clear k2
  go_wp2
  go_ret
  exact ⟨by kernel_rfl, hb0⟩
end Go.Proofs.YtcfiemeknocgjaaDoor
