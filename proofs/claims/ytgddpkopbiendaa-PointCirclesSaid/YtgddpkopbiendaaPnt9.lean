/- The walks of package point's Cmp. Conditions: none. -/
import Derived.Test.YtgddpkopbiendaaPnt7
import Derived.Test.YtgddpkopbiendaaPnt8
namespace Go.Proofs.Ytgddpkopbiendaa
open Go.RowKit

/-- which of two comes first -/
def cmpP (ax ay bx b_y : Int) : Int := or2 (cmpI ax bx) (cmpI ay b_y)
set_option maxRecDepth 100000 in
set_option maxHeartbeats 1000000 in
theorem PtCmp_any (ax ay bx b_y : Int) (w : World) :
    Calls Try.prog 42 #[pI ax ay, pI bx b_y] w fun e w' => e = .returned (.int .i64 (cmpP ax ay bx b_y)) ∧ Below w.heap.size w w' := by
  unfold cmpP
  obtain ⟨x, hx⟩ : ∃ x, cmpI ax bx = x := ⟨_, rfl⟩
  obtain ⟨y, hy⟩ : ∃ y, cmpI ay b_y = y := ⟨_, rfl⟩
  rw [hx, hy]
  have HX := Lib.hid hx
  have HY := Lib.hid hy
  clear hx hy
  go_enter Try.func42, Try.ntmps42
  go_wp2_with fail
  refine name_world ?_
  intro W hW
  have ka : PVar W w.heap.size ax ay := by rw [hW]; exact (Blk.new w _ _).alloc _
  have kb : PVar W (w.heap.size + 1) bx b_y := by rw [hW]; exact Blk.new1 w _ _ _
  have hb0 : Below w.heap.size w W := by rw [hW]; exact below_a2 _ _ _
  clear hW
  have ca := PVar.c ka
  have cb := PVar.c kb
  have la := ka.lt
  have lb := kb.lt
  clear ka kb
  refine wp_region_up W.heap.size 9 [(true, 0), (true, 1), (true, 2), (true, 3), (true, 5), (true, 6), (true, 7), (true, 8), (false, 4)] (by kernel_rfl) (by kernel_rfl) (fun _ _ d _ _ h => by cases d <;> exact h) ?_
  have hb : Below W.heap.size W W.drew := (Below.refl _ _).drew
  iterate 8
    refine wpS_takeL rfl rfl ?_
    go_big_quiet_step (rfl)
    refine wpQuiet_nil ?_
  refine wpS_doL rfl ?_
  intro K hK
  go_wp2_with ((first | (go_at_call 81; (with_reducible refine (Compare_any ax bx _).mono ?_); rintro e w2 ⟨rfl, hn⟩; rw [HX.out]) | (go_at_call 81; (with_reducible refine (Compare_any ay b_y _).mono ?_); rintro e w2 ⟨rfl, hn⟩; rw [HY.out])))
  replace hb := hb.trans (hn.mono hb.size)
  refine hK.out _ _ (up_iff.2 hb) ?_
  clear hK K
  clear hn
  refine wpS_nil ?_
  simp only [List.drop_succ_cons, List.drop_zero]
  replace hb0 := hb0.trans (hb.mono hb0.size)
  clear hb
  clear ca cb la lb
  go_wp2_with fail
  refine (Compare_any ay b_y _).mono ?_
  rintro e u1 ⟨rfl, hn⟩
  rw [HY.out]
  replace hb0 := hb0.trans (hn.mono hb0.size)
  clear hn
  go_wp2_with fail
  refine calls_w ?_
  intro V hV
  have kl : Blk V u1.heap.size #[.int .i64 x, .int .i64 y] 3 := by rw [hV]; exact Blk.new _ _ _
  have hv : Below u1.heap.size u1 V := by rw [hV]; exact below_a1 _ _
  replace hb0 := hb0.trans (hv.mono hb0.size)
  clear hV hv
  refine (Or2_any x y _ _ (kl.cell 0) (kl.cell 1)).mono ?_
  rintro e u2 ⟨rfl, hn⟩
  replace hb0 := hb0.trans (hn.mono hb0.size)
  clear hn kl
  go_wp2
  go_ret
  exact ⟨rfl, hb0⟩
end Go.Proofs.Ytgddpkopbiendaa
