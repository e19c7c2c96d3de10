/- The walk of gromalaw01's WideProducts. Conditions: the numbers are numbers of 256 bits; the table of powers lies as laid. -/
import Derived.Test.YtgddpkopbiendaaDoorWdB
namespace Go.Proofs.YtgddpkopbiendaaDoor
open Go.RowKit

set_option maxRecDepth 100000 in
set_option maxHeartbeats 2000000 in
theorem WProd_go (x y q p : Int) (o : Bool) (hq : x * y = q) (ho : okI q = o) (hp : (bif o then q else 0) = p) (ix : InI x) (iy : InI y) (w : World) (hG : Tab w) :
    Calls Tryd.prog 3 #[wI x, wI y] w fun e w' => e = .returned (.bool true) ∧ Below w.heap.size w w' := by
  have HQ := Lib.hid hq
  have HO := Lib.hid ho
  have HP := Lib.hid hp
  have SX := Lib.hid (sg_id ix)
  have SY := Lib.hid (sg_id iy)
  have IX := Lib.hid ix
  have IY := Lib.hid iy
  have hmo : ∀ w, Calls Tryd.prog 12 #[wI x, wI y] w fun e w' => e = .returned (.tuple #[wI p, .bool o]) ∧ Below w.heap.size w w' := fun w => by
    subst hq; exact Mul_is x y o ho p hp w ix iy
  have HT := Lib.hid hmo
  clear hq ho hp ix iy hmo
  go_enter Tryd.func3, Tryd.ntmps3
  go_wp2_with fail
  refine calls_w ?_
  intro W hW
  have ka : Var W w.heap.size x := by rw [hW]; exact (Blk.new w _ _).alloc _
  have kb : Var W (w.heap.size + 1) y := by rw [hW]; exact Blk.new1 w _ _ _
  have hb0 : Below w.heap.size w W := by rw [hW]; exact below_a2 _ _ _
  clear hW
  refine (HT.out _).mono ?_
  rintro e u1 ⟨rfl, hn⟩
  replace ka := ka.of hn
  replace kb := kb.of hn
  replace hb0 := hb0.trans (hn.mono hb0.size)
  clear hn
  go_wp2_with fail
  refine name_world ?_
  intro V hV
  have kp : Var V u1.heap.size p := by rw [hV]; exact Blk.new _ _ _
  have hn : Below u1.heap.size u1 V := by rw [hV]; exact below_a1 _ _
  replace ka := ka.of hn
  replace kb := kb.of hn
  replace hb0 := hb0.trans (hn.mono hb0.size)
  clear hn hV
  have ca := Var.c ka
  have cb := Var.c kb
  have cp := Var.c kp
  have la := ka.lt
  have lb := kb.lt
  have lp := kp.lt
  clear ka kb kp
  refine wp_region_up V.heap.size 7 [(true, 0), (true, 1), (true, 2), (true, 4), (false, 3), (false, 5), (false, 6)] (by kernel_rfl) (by kernel_rfl) (fun _ _ d _ _ h => by cases d <;> exact h) ?_
  have hb : Below V.heap.size V V.drew := (Below.refl _ _).drew
  iterate 4
    refine wpS_takeL rfl rfl ?_
    go_big_quiet_step (rfl)
    refine wpQuiet_nil ?_
  refine wpS_doL rfl ?_
  intro K hK
  go_wp2_with ((first | (go_at_call 15; (with_reducible refine (Read_in x SX.out _).mono ?_); rintro e w4 ⟨vm, rfl, hbm, hn⟩; have HM := Lib.hid hbm; clear hbm) | (go_at_call 15; (with_reducible refine (Read_in y SY.out _).mono ?_); rintro e w5 ⟨vn, rfl, hbm, hn⟩; have HN := Lib.hid hbm; replace HM := Lib.hid (HM.out.of hn); clear hbm) | (go_at_call 14; refine (bigMul_any _ _ x y 18 18 _ HM.out HN.out (by decide)).mono ?_; rintro e w6 ⟨vq, rfl, hbm, hn⟩; rw [HQ.out] at hbm; have HB := Lib.hid hbm; clear hbm HM HN)))
  replace hb := hb.trans (hn.mono hb.size)
  refine hK.out _ _ (up_iff.2 hb) ?_
  clear hK K
  clear hn
  refine wpS_doL rfl ?_
  intro K hK
  go_wp2_with ((first | (go_at_call 15; (with_reducible refine (Read_in x SX.out _).mono ?_); rintro e w4 ⟨vm, rfl, hbm, hn⟩; have HM := Lib.hid hbm; clear hbm) | (go_at_call 15; (with_reducible refine (Read_in y SY.out _).mono ?_); rintro e w5 ⟨vn, rfl, hbm, hn⟩; have HN := Lib.hid hbm; replace HM := Lib.hid (HM.out.of hn); clear hbm) | (go_at_call 14; refine (bigMul_any _ _ x y 18 18 _ HM.out HN.out (by decide)).mono ?_; rintro e w6 ⟨vq, rfl, hbm, hn⟩; rw [HQ.out] at hbm; have HB := Lib.hid hbm; clear hbm HM HN)))
  replace hb := hb.trans (hn.mono hb.size)
  refine hK.out _ _ (up_iff.2 hb) ?_
  clear hK K
  clear hn
  refine wpS_doL rfl ?_
  intro K hK
  go_wp2_with ((first | (go_at_call 15; (with_reducible refine (Read_in x SX.out _).mono ?_); rintro e w4 ⟨vm, rfl, hbm, hn⟩; have HM := Lib.hid hbm; clear hbm) | (go_at_call 15; (with_reducible refine (Read_in y SY.out _).mono ?_); rintro e w5 ⟨vn, rfl, hbm, hn⟩; have HN := Lib.hid hbm; replace HM := Lib.hid (HM.out.of hn); clear hbm) | (go_at_call 14; refine (bigMul_any _ _ x y 18 18 _ HM.out HN.out (by decide)).mono ?_; rintro e w6 ⟨vq, rfl, hbm, hn⟩; rw [HQ.out] at hbm; have HB := Lib.hid hbm; clear hbm HM HN)))
  replace hb := hb.trans (hn.mono hb.size)
  refine hK.out _ _ (up_iff.2 hb) ?_
  clear hK K
  clear hn
  refine wpS_nil ?_
  simp only [List.drop_succ_cons, List.drop_zero]
  replace hb0 := hb0.trans (hb.mono hb0.size)
  clear hb ca cb cp la lb lp
  go_wp2_with fail
  refine (told_is q p o _ 36 HO.out HP.out _ HB.out).mono ?_
  rintro e w7 ⟨rfl, hn⟩
  replace hb0 := hb0.trans (hn.mono hb0.size)
  clear hn
  go_wp2_with fail
  refine (wawake_any _ (hG.of hb0)).mono ?_
  rintro e w8 ⟨rfl, hn⟩
  replace hb0 := hb0.trans (hn.mono hb0.size)
  clear hn
  go_wp2
  go_ret
  exact ⟨by simp, hb0⟩
theorem WProd_any (x y : Int) (w : World) (hG : Tab w) (ix : InI x) (iy : InI y) :
    Calls Tryd.prog 3 #[wI x, wI y] w fun e w' => e = .returned (.bool true) ∧ Below w.heap.size w w' :=
  WProd_go x y _ _ _ rfl rfl rfl ix iy w hG
end Go.Proofs.YtgddpkopbiendaaDoor
