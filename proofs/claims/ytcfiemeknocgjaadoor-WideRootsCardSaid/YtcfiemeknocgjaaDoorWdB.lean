/- The walks of gromalaw01's is and told. Conditions: the numbers are numbers of 256 bits. -/
import Derived.Test.YtcfiemeknocgjaaDoorWdA
namespace Go.Proofs.YtcfiemeknocgjaaDoor
open Go.RowKit

set_option maxRecDepth 100000 in
set_option maxHeartbeats 1000000 in
theorem is_is (x n : Int) (v : Value) (L : Nat) (c : Int) (z : Bool) (hc : cmpI x n = c) (hz : (c == 0) = z) (hx : sg x = x) (w : World) (h : Big w v n L) :
    Calls Tryd.prog 14 #[wI x, v] w fun e w' => e = .returned (.bool z) ∧ Below w.heap.size w w' := by
  have HC := Lib.hid hc
  have HX := Lib.hid hx
  have HB := Lib.hid h
  have hv := h.shape
  clear hc hx h
  obtain ⟨n1, a1, q1, e1, rfl⟩ := hv
  go_enter Tryd.func14, Tryd.ntmps14
  go_wp2_with fail
  refine name_world ?_
  intro W hW
  have ka : Var W w.heap.size x := by rw [hW]; exact (Blk.new w _ _).alloc _
  have kb : BigVar W (w.heap.size + 1) n1 a1 q1 e1 := by rw [hW]; exact Blk.new1 w _ _ _
  have hb0 : Below w.heap.size w W := by rw [hW]; exact below_a2 _ _ _
  replace HB := Lib.hid (HB.out.of hb0)
  clear hW
  have ca := Var.c ka
  have cb := BigVar.c kb
  have la := ka.lt
  have lb := kb.lt
  clear ka kb
  refine wp_region_up W.heap.size 3 [(true, 0), (true, 2), (false, 1)] (by kernel_rfl) (by kernel_rfl) (fun _ _ d _ _ h => by cases d <;> exact h) ?_
  have hb : Below W.heap.size W W.drew := (Below.refl _ _).drew
  iterate 2
    refine wpS_takeL rfl rfl ?_
    go_big_quiet_step (rfl)
    refine wpQuiet_nil ?_
  refine wpS_doL rfl ?_
  intro K hK
  go_wp2_with ((go_at_call 16; (with_reducible refine (Read_in x HX.out _).mono ?_); rintro e w4 ⟨vm, rfl, hbm, hn⟩; have HM := Lib.hid hbm; clear hbm))
  replace hb := hb.trans (hn.mono hb.size)
  refine hK.out _ _ (up_iff.2 hb) ?_
  clear hK K
  clear hn
  refine wpS_nil ?_
  simp only [List.drop_succ_cons, List.drop_zero]
  replace hb0 := hb0.trans (hb.mono hb0.size)
  replace HB := Lib.hid (HB.out.of hb)
  clear hb ca cb la lb
  go_wp2_with fail
  refine (bigCmp_is _ _ x n 18 L c HC.out _ HM.out HB.out).mono ?_
  rintro e w5 ⟨rfl, hn⟩
  replace hb0 := hb0.trans (hn.mono hb0.size)
  clear hn
  go_wp2
  go_ret
  exact ⟨rfl, hb0⟩

set_option maxRecDepth 100000 in
set_option maxHeartbeats 1000000 in
theorem told_is (n x : Int) (o : Bool) (v : Value) (L : Nat) (ho : okI n = o) (hx : (bif o then n else 0) = x) (w : World) (h : Big w v n L) :
    Calls Tryd.prog 27 #[wI x, .bool o, v] w fun e w' => e = .returned (.bool true) ∧ Below w.heap.size w w' := by
  have HO := Lib.hid ho
  have HB := Lib.hid h
  have hv := h.shape
  clear h
  obtain ⟨n1, a1, q1, e1, rfl⟩ := hv
  cases o
  · obtain rfl : 0 = x := hx
    clear ho
    go_enter Tryd.func27, Tryd.ntmps27
    go_wp2_with fail
    refine calls_w ?_
    intro W hW
    have ka : Var W w.heap.size 0 := by rw [hW]; exact (Blk.new w _ _).alloc _
    have kb : BigVar W (w.heap.size + 1) n1 a1 q1 e1 := by rw [hW]; exact Blk.new1 w _ _ _
    have hb0 : Below w.heap.size w W := by rw [hW]; exact below_a2 _ _ _
    replace HB := Lib.hid (HB.out.of hb0)
    clear hW
    refine (Fits_is _ n L false HO.out _ HB.out).mono ?_
    rintro e u1 ⟨rfl, hn⟩
    replace ka := ka.of hn
    replace hb0 := hb0.trans (hn.mono hb0.size)
    clear hn
    have ca := Var.c ka
    have e0 : eq4 (wd0 0) (wd1 0) (wd2 0) (wd3 0) 0 0 0 0 = true := by kernel_rfl
    go_wp2
    go_ret
    exact ⟨by kernel_rfl, hb0⟩
  · obtain rfl : n = x := hx
    have hs : sg n = n := sg_id (by have : InI n := by simpa [okI] using ho
                                    exact this)
    clear ho
    go_enter Tryd.func27, Tryd.ntmps27
    go_wp2_with fail
    refine calls_w ?_
    intro W hW
    have ka : Var W w.heap.size n := by rw [hW]; exact (Blk.new w _ _).alloc _
    have kb : BigVar W (w.heap.size + 1) n1 a1 q1 e1 := by rw [hW]; exact Blk.new1 w _ _ _
    have hb0 : Below w.heap.size w W := by rw [hW]; exact below_a2 _ _ _
    replace HB := Lib.hid (HB.out.of hb0)
    clear hW
    refine (Fits_is _ n L true HO.out _ HB.out).mono ?_
    rintro e u1 ⟨rfl, hn⟩
    replace ka := ka.of hn
    replace kb := kb.of hn
    replace HB := Lib.hid (HB.out.of hn)
    replace hb0 := hb0.trans (hn.mono hb0.size)
    clear hn
    have ca := Var.c ka
    have cb := BigVar.c kb
    go_wp2_with fail
    refine (is_is n n _ L 0 true (cmpI_eq _) rfl hs _ HB.out).mono ?_
    rintro e u2 ⟨rfl, hn⟩
    replace hb0 := hb0.trans (hn.mono hb0.size)
    clear hn
    go_wp2
    go_ret
    exact ⟨by simp, hb0⟩
end Go.Proofs.YtcfiemeknocgjaaDoor
