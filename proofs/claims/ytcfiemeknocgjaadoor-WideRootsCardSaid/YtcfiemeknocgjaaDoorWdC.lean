/- The walk of gromaref01's Of. Conditions: the number is an int. -/
import Derived.Test.YtcfiemeknocgjaaDoorWdB
namespace Go.Proofs.YtcfiemeknocgjaaDoor
open Go.RowKit

theorem ws1 {W : World} {b : Nat} {u : Int} {t : TypeId} (hu : Wd u) (h : Blk W b #[.int .u64 u] t) : Ws W b [u] :=
  ⟨fun i hi => by
    match i, hi with
    | 0, _ => exact h.cell 0, h.lt, fun d hd => by rw [List.mem_singleton.1 hd]; exact hu, by simp⟩

set_option maxRecDepth 100000 in
set_option maxHeartbeats 1000000 in
theorem bigOf_pos (n : Int) (w : World) (h0 : 0 ≤ n) (h1 : n < 9223372036854775808) : Calls Tryd.prog 24 #[.int .i64 n] w (GivesBig w n 5) := by
  go_enter Tryd.func24, Tryd.ntmps24
  go_wp2_with fail
  refine calls_w ?_
  intro W hW
  have k0 : Blk W w.heap.size #[.bool false, .slice none 0 0] 34 := by rw [hW]; exact (Blk.new w _ _).alloc _
  have kl : Blk W (w.heap.size + 1) #[.int .u64 n] 22 := by rw [hW]; exact Blk.new1 w _ _ _
  have hb0 : Below w.heap.size w W := by rw [hW]; exact below_a2 _ _ _
  clear hW
  have T := Words_any (w.heap.size + 1) 1 1 [n] W (ws1 ⟨h0, by omega⟩ kl) rfl
  rw [show uval [n] = n by simp [uval]] at T
  refine T.mono ?_
  clear T
  rintro e u1 ⟨vm, rfl, hbm, hn⟩
  replace k0 := k0.of hn
  replace hb0 := hb0.trans (hn.mono hb0.size)
  have HBG := Lib.hid hbm
  have hvm := hbm.shape
  clear hbm hn kl
  obtain ⟨n5, a5, q5, c5, rfl⟩ := hvm
  have d0 := k0.cell 0
  have d1 := k0.cell 1
  have f0 := k0.free 0
  have f1 := k0.free 1
  simp only [List.getElem?_toArray, List.getElem?_cons_zero, List.getElem?_cons_succ] at d0 d1
  clear k0
  go_wp2
  simp [bodyPost, results, Tryd.results24, go_sem, d0, d1]
  exact ⟨_, rfl, HBG.out.set2 d0 (.bool n5) (.slice a5 q5 c5), set2_below hb0 (Nat.le_refl _) _ _⟩

set_option maxRecDepth 100000 in
set_option maxHeartbeats 1000000 in
theorem bigOf_neg (n : Int) (w : World) (h0 : n < 0) (h1 : -9223372036854775808 ≤ n) : Calls Tryd.prog 24 #[.int .i64 n] w (GivesBig w n 5) := by
  have hn0 : ¬ 0 ≤ n := by omega
  go_enter Tryd.func24, Tryd.ntmps24
  go_wp2_with fail
  refine calls_w ?_
  intro W hW
  have k0 : Blk W w.heap.size #[.bool false, .slice none 0 0] 34 := by rw [hW]; exact (Blk.new w _ _).alloc _
  have kl : Blk W (w.heap.size + 1) #[.int .u64 (-(n + 1) + 1)] 22 := by rw [hW]; exact Blk.new1 w _ _ _
  have hb0 : Below w.heap.size w W := by rw [hW]; exact below_a2 _ _ _
  clear hW
  have T := Words_any (w.heap.size + 1) 1 1 [-(n + 1) + 1] W (ws1 ⟨by omega, by omega⟩ kl) rfl
  rw [show uval [-(n + 1) + 1] = -n by simp [uval]; omega] at T
  refine T.mono ?_
  clear T
  rintro e u1 ⟨vm, rfl, hbm, hn⟩
  replace k0 := k0.of hn
  replace hb0 := hb0.trans (hn.mono hb0.size)
  have HB1 := Lib.hid hbm
  have hvm := hbm.shape
  clear hbm hn kl
  obtain ⟨n4, a4, q4, c4, rfl⟩ := hvm
  go_wp2_with fail
  have T := Minus_any _ _ _ _ HB1.out
  rw [Int.neg_neg] at T
  refine T.mono ?_
  clear T
  rintro e u2 ⟨vm, rfl, hbm, hn⟩
  replace k0 := k0.of hn
  replace hb0 := hb0.trans (hn.mono hb0.size)
  have HBG := Lib.hid hbm
  have hvm := hbm.shape
  clear hbm hn HB1
  obtain ⟨n5, a5, q5, c5, rfl⟩ := hvm
  have d0 := k0.cell 0
  have d1 := k0.cell 1
  have f0 := k0.free 0
  have f1 := k0.free 1
  simp only [List.getElem?_toArray, List.getElem?_cons_zero, List.getElem?_cons_succ] at d0 d1
  clear k0
  go_wp2
  simp [bodyPost, results, Tryd.results24, go_sem, d0, d1]
  exact ⟨_, rfl, HBG.out.set2 d0 (.bool n5) (.slice a5 q5 c5), set2_below hb0 (Nat.le_refl _) _ _⟩
theorem bigOf_any (n : Int) (w : World) (h : In64 n) : Calls Tryd.prog 24 #[.int .i64 n] w (GivesBig w n 5) := by
  by_cases h0 : 0 ≤ n
  · exact bigOf_pos n w h0 h.2
  · exact bigOf_neg n w (by omega) h.1
end Go.Proofs.YtcfiemeknocgjaaDoor
