/- The walks of gromaref03's square and lift. Conditions: the numbers are ints. -/
import Derived.Test.YtgddpkopbiendaaPntD
import Derived.Test.YtgddpkopbiendaaPntE
namespace Go.Proofs.Ytgddpkopbiendaa
open Go.RowKit

set_option maxRecDepth 100000 in
set_option maxHeartbeats 1000000 in
theorem square_any (n : Int) (w : World) (h : In64 n) : Calls Try.prog 105 #[.int .i64 n] w (GivesBig w (n * n) 10) := by
  go_enter Try.func105, Try.ntmps105
  go_wp2_with fail
  refine calls_w ?_
  intro W hW
  have kz : Blk W w.heap.size #[.bool false, .slice none 0 0] 33 := by rw [hW]; exact Blk.new w _ _
  have hb0 : Below w.heap.size w W := by rw [hW]; exact below_a1 _ _
  clear hW
  refine (bigOf_any n _ h).mono ?_
  rintro e u1 ⟨v1, rfl, hbm, hn⟩
  replace kz := kz.of hn
  replace hb0 := hb0.trans (hn.mono hb0.size)
  have HM := Lib.hid hbm
  have hvm := hbm.shape
  clear hbm hn
  obtain ⟨m1, a1, l1, p1, rfl⟩ := hvm
  go_wp2_with fail
  refine (bigOf_any n _ h).mono ?_
  rintro e u2 ⟨v2, rfl, hbm, hn⟩
  replace kz := kz.of hn
  replace hb0 := hb0.trans (hn.mono hb0.size)
  replace HM := Lib.hid (HM.out.of hn)
  have HN := Lib.hid hbm
  have hvm := hbm.shape
  clear hbm hn
  obtain ⟨m2, a2, l2, p2, rfl⟩ := hvm
  go_wp2_with fail
  refine (bigMul_any _ _ n n 5 5 _ HM.out HN.out (by decide)).mono ?_
  rintro e u5 ⟨v5, rfl, hbig, hn⟩
  have hb5 := hb0
  have KZ := Lib.hid kz
  clear hb0 kz HM HN
  have HBG := Lib.hid hbig
  have hvv := hbig.shape
  clear hbig
  obtain ⟨m5, b5, l5, r5, rfl⟩ := hvv
  have k5 := KZ.out.of hn
  have d0 := k5.cell 0
  have d1' := k5.cell 1
  have f0 := k5.free 0
  have f1 := k5.free 1
  simp only [List.getElem?_toArray, List.getElem?_cons_zero, List.getElem?_cons_succ] at d0 d1'
  replace hb5 := hb5.trans (hn.mono hb5.size)
  have hge : w.heap.size ≤ w.heap.size := by omega
  clear hn k5 KZ
  go_wp2
  simp [bodyPost, results, Try.results105, go_sem, d0, d1']
  exact ⟨_, rfl, HBG.out.set2 d0 (.bool m5) (.slice b5 l5 r5), set2_below hb5 hge _ _⟩

set_option maxRecDepth 100000 in
set_option maxHeartbeats 1000000 in
theorem lift_go (x y p q r : Int) (w : World) (hx : In64 x) (hy : In64 y) (hp : x * x = p) (hq : y * y = q) (hr : p + q = r) : Calls Try.prog 87 #[pI x y] w (GivesBig w r 11) := by
  have HP := Lib.hid hp
  have HQ := Lib.hid hq
  have HR := Lib.hid hr
  clear hp hq hr
  go_enter Try.func87, Try.ntmps87
  go_wp2_with fail
  refine name_world ?_
  intro W hW
  have ka : QVar W w.heap.size x y := by rw [hW]; exact (Blk.new w _ _).alloc _
  have kz : Blk W (w.heap.size + 1) #[.bool false, .slice none 0 0] 33 := by rw [hW]; exact Blk.new1 w _ _ _
  have hb0 : Below w.heap.size w W := by rw [hW]; exact below_a2 _ _ _
  clear hW
  have ca := QVar.c ka
  have la := ka.lt
  have KZ := Lib.hid kz
  clear ka kz
  refine wp_region_up W.heap.size 5 [(true, 0), (true, 1), (true, 3), (true, 4), (false, 2)] (by kernel_rfl) (by kernel_rfl) (fun _ _ d _ _ h => by cases d <;> exact h) ?_
  have hb : Below W.heap.size W W.drew := (Below.refl _ _).drew
  iterate 4
    refine wpS_takeL rfl rfl ?_
    go_big_quiet_step (rfl)
    refine wpQuiet_nil ?_
  refine wpS_doL rfl ?_
  intro K hK
  go_wp2_with ((go_at_call 105; (with_reducible refine (square_any x _ hx).mono ?_); rintro e w4 ⟨vm, rfl, hbm, hn⟩; rw [HP.out] at hbm; have HM := Lib.hid hbm; have hvm := hbm.shape; clear hbm; obtain ⟨n4, a4, q4, e4, rfl⟩ := hvm))
  replace hb := hb.trans (hn.mono hb.size)
  refine hK.out _ _ (up_iff.2 hb) ?_
  clear hK K
  clear hn
  refine wpS_nil ?_
  simp only [List.drop_succ_cons, List.drop_zero]
  replace HM := HM
  replace hb0 := hb0.trans (hb.mono hb0.size)
  have KZ := Lib.hid (KZ.out.of hb)
  clear hb ca la
  go_wp2_with fail
  refine (square_any y _ hy).mono ?_
  rintro e u5 ⟨vm, rfl, hbm, hn⟩
  rw [HQ.out] at hbm
  replace HM := Lib.hid (HM.out.of hn)
  have HN := Lib.hid hbm
  have hvm := hbm.shape
  replace hb0 := hb0.trans (hn.mono hb0.size)
  replace KZ := Lib.hid (KZ.out.of hn)
  clear hbm hn
  obtain ⟨n5, a5, q5, e5, rfl⟩ := hvm
  go_wp2_with fail
  refine (bigAdd_any _ _ p q 10 _ HM.out HN.out (by decide)).mono ?_
  rintro e u6 ⟨v5, rfl, hbig, hn⟩
  rw [HR.out] at hbig
  have hb5 := hb0
  clear hb0 HM HN
  have HBG := Lib.hid hbig
  have hvv := hbig.shape
  clear hbig
  obtain ⟨m5, b5, l5, r5, rfl⟩ := hvv
  have k5 := KZ.out.of hn
  have d0 := k5.cell 0
  have d1' := k5.cell 1
  have f0 := k5.free 0
  have f1 := k5.free 1
  simp only [List.getElem?_toArray, List.getElem?_cons_zero, List.getElem?_cons_succ] at d0 d1'
  replace hb5 := hb5.trans (hn.mono hb5.size)
  have hge : w.heap.size ≤ w.heap.size + 1 := by omega
  clear hn k5 KZ
  go_wp2
  simp [bodyPost, results, Try.results87, go_sem, d0, d1']
  exact ⟨_, rfl, HBG.out.set2 d0 (.bool m5) (.slice b5 l5 r5), set2_below hb5 hge _ _⟩
theorem lift_any (x y : Int) (w : World) (hx : In64 x) (hy : In64 y) : Calls Try.prog 87 #[pI x y] w (GivesBig w (lft x y) 11) :=
  lift_go x y _ _ _ w hx hy rfl rfl rfl
end Go.Proofs.Ytgddpkopbiendaa
