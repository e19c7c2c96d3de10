/- The walks of package point: far. Conditions: the coordinates are right. -/
import Derived.Test.YtgddpkopbiendaaPnt3
namespace Go.Proofs.Ytgddpkopbiendaa
open Go.RowKit

set_option maxRecDepth 100000 in
set_option maxHeartbeats 2000000 in
theorem far_go (ax ay bx b_y d1 d2 p q r : Int) (h1 : ax - bx = d1) (h2 : ay - b_y = d2) (g1 : In64 d1) (g2 : In64 d2) (hp : d1 * d1 = p) (hq : d2 * d2 = q) (hr : p + q = r) (ip : InI p) (iq : InI q) (ir : InI r) (w : World) :
    Calls Try.prog 86 #[pI ax ay, pI bx b_y] w fun e w' => e = .returned (wI r) ∧ Below w.heap.size w w' := by
  have H1 := Lib.hid h1
  have H2 := Lib.hid h2
  have H5 := Lib.hid hp
  have H6 := Lib.hid hq
  have H7 := Lib.hid hr
  clear h1 h2 hp hq hr
  go_enter Try.func86, Try.ntmps86
  go_wp2_with fail
  refine name_world ?_
  intro W hW
  have ka : PVar W w.heap.size ax ay := by rw [hW]; exact (Blk.new w _ _).alloc _ |>.alloc _
  have kb : PVar W (w.heap.size + 1) bx b_y := by rw [hW]; exact (Blk.new1 w _ _ _).alloc _
  have kz : Var W (w.heap.size + 1 + 1) 0 := by rw [hW]; exact Blk.new2 w _ _ _ _
  have hb0 : Below w.heap.size w W := by rw [hW]; exact below_a3 _ _ _ _
  clear hW
  have ca := PVar.c ka
  have cb := PVar.c kb
  have la := ka.lt
  have lb := kb.lt
  have KZ := Lib.hid kz
  clear ka kb kz
  refine wp_region_FG2 14 12 13 [(0, 0), (0, 1), (0, 2), (0, 3), (0, 4), (2, 6), (0, 7), (2, 8), (0, 9), (0, 10), (1, 5), (1, 11)] [(3, 14), (3, 15)] (by kernel_rfl) (by kernel_rfl) (fun _ _ d _ _ => by cases d <;> exact Iff.rfl) rfl rfl rfl allocI rfl rfl rfl allocI rfl ?_
  have hb : Below W.heap.size W W.drew := (Below.refl _ _).drew
  iterate 5
    refine wpFG_take0 rfl rfl ?_
    go_big_quiet_step (rfl)
    refine wpQuiet_nil ?_
  refine wpFG_take2 rfl rfl ?_
  go_big_quiet_step (rfl)
  refine wpQuiet_nil ?_
  refine wpFG_take0 rfl rfl ?_
  go_big_quiet_step (rfl)
  refine wpQuiet_nil ?_
  refine wpFG_take2 rfl rfl ?_
  go_big_quiet_step (rfl)
  refine wpQuiet_nil ?_
  iterate 2
    refine wpFG_take0 rfl rfl ?_
    go_big_quiet_step (rfl)
    refine wpQuiet_nil ?_
  refine wpFG_do rfl ?_
  intro w1 hg K hK
  replace hb := hb.trans (hg.mono hb.size)
  clear hg
  go_wp2_with ((first | (go_at_call 31; (with_reducible refine (OfD_any ax bx d1 H1.out g1 _).mono ?_); rintro e w2 ⟨rfl, hn⟩) | (go_at_call 31; (with_reducible refine (OfD_any ay b_y d2 H2.out g2 _).mono ?_); rintro e w2 ⟨rfl, hn⟩)))
  refine hK.out _ _ hn ?_
  replace hb := hb.trans (hn.mono hb.size)
  clear hK K
  clear hn
  refine wpFG_do rfl ?_
  intro w1 hg K hK
  replace hb := hb.trans (hg.mono hb.size)
  clear hg
  go_wp2_with ((first | (go_at_call 31; (with_reducible refine (OfD_any ax bx d1 H1.out g1 _).mono ?_); rintro e w2 ⟨rfl, hn⟩) | (go_at_call 31; (with_reducible refine (OfD_any ay b_y d2 H2.out g2 _).mono ?_); rintro e w2 ⟨rfl, hn⟩)))
  refine hK.out _ _ hn ?_
  replace hb := hb.trans (hn.mono hb.size)
  clear hK K
  clear hn
  refine wpFG_nil ?_
  clear hb
  intro w1 hg hb b1 b2 hne lb1 nb1 lb2 nb2
  clear hg
  simp only [Act.put, ptrTo, List.setIfInBounds_toArray, List.set_cons_succ, List.set_cons_zero]
  have c1 := Var.c (show Var w1 b1 0 from nb1)
  have f1 := Var.f (show Var w1 b1 0 from nb1)
  have c2 := Var.c (show Var w1 b2 0 from nb2)
  have f2 := Var.f (show Var w1 b2 0 from nb2)
  clear ca cb la lb
  refine wpG_do3 rfl ?_
  intro K hK
  go_wp2_with (fail)
  refine hK.out _ _ ?_
  clear hK K
  refine wpG_do3 rfl ?_
  intro K hK
  go_wp2_with (fail)
  refine hK.out _ _ ?_
  clear hK K
  refine wpG_nil ?_
  refine list_world ?_
  intro V hV
  have g1' : Var w1 b1 0 := nb1
  have g2' : Var w1 b2 0 := nb2
  have hne' : b1 ≠ b2 := hne
  have hz1 : w.heap.size + 1 + 1 ≠ b1 := by have := KZ.out.lt; omega
  have hz2 : w.heap.size + 1 + 1 ≠ b2 := by have := KZ.out.lt; omega
  have k1 : Var V b1 d1 := by rw [hV]; exact (Var.put4 g1' d1).set4 hne' _ _ _ _
  have k2 : Var V b2 d2 := by rw [hV]; exact Var.put4 (g2'.set4 hne'.symm (.int .u64 (wd0 d1)) (.int .u64 (wd1 d1)) (.int .u64 (wd2 d1)) (.int .u64 (wd3 d1))) d2
  have kz : Var V (w.heap.size + 1 + 1) 0 := by rw [hV]; exact ((KZ.out.of hb).set4 hz1 _ _ _ _).set4 hz2 _ _ _ _
  have hge1 : w.heap.size ≤ b1 := Nat.le_trans hb0.size lb1
  have hge2 : w.heap.size ≤ b2 := Nat.le_trans hb0.size lb2
  have hbV : Below w.heap.size w V := by
    rw [hV]
    exact below_set4 (below_set4 (hb0.trans (hb.mono hb0.size)) hge1 (.int .u64 (wd0 d1)) (.int .u64 (wd1 d1)) (.int .u64 (wd2 d1)) (.int .u64 (wd3 d1))) hge2 (.int .u64 (wd0 d2)) (.int .u64 (wd1 d2)) (.int .u64 (wd2 d2)) (.int .u64 (wd3 d2))
  replace KZ := Lib.hid kz
  clear hV g1' g2' c1 c2 f1 f2 nb1 nb2 kz hb hb0
  have l1 := k1.lt
  have l2 := k2.lt
  have c1 := Var.c k1
  have c2 := Var.c k2
  clear k1 k2
  go_wp2_with fail
  refine wp_region_up V.heap.size 5 [(true, 0), (true, 1), (true, 3), (true, 4), (false, 2)] (by kernel_rfl) (by kernel_rfl) (fun _ _ d _ _ h => by cases d <;> exact h) ?_
  have hb : Below V.heap.size V V.drew := (Below.refl _ _).drew
  iterate 4
    refine wpS_takeL rfl rfl ?_
    go_big_quiet_step (rfl)
    refine wpQuiet_nil ?_
  refine wpS_doL rfl ?_
  intro K hK
  go_wp2_with ((first | (go_at_call 85; (with_reducible refine (times_is d1 d1 p H5.out ip _ (in64_I g1) (in64_I g1)).mono ?_); rintro e w2 ⟨rfl, hn⟩) | (go_at_call 85; (with_reducible refine (times_is d2 d2 q H6.out iq _ (in64_I g2) (in64_I g2)).mono ?_); rintro e w2 ⟨rfl, hn⟩) | (go_at_call 84; (with_reducible refine (plus_is p q r H7.out ir _ ip iq).mono ?_); rintro e w2 ⟨rfl, hn⟩)))
  replace hb := hb.trans (hn.mono hb.size)
  refine hK.out _ _ (up_iff.2 hb) ?_
  clear hK K
  clear hn
  refine wpS_nil ?_
  simp only [List.drop_succ_cons, List.drop_zero]
  replace hb0 := hbV.trans (hb.mono hbV.size)
  replace KZ := Lib.hid (KZ.out.of hb)
  clear hb c1 c2 l1 l2 hbV
  go_wp2_with fail
  refine (times_is d2 d2 q H6.out iq _ (in64_I g2) (in64_I g2)).mono ?_
  rintro e u2 ⟨rfl, hn⟩
  replace hb0 := hb0.trans (hn.mono hb0.size)
  replace KZ := Lib.hid (KZ.out.of hn)
  clear hn
  go_wp2_with fail
  refine (plus_is p q r H7.out ir _ ip iq).mono ?_
  rintro e u3 ⟨rfl, hn⟩
  replace hb0 := hb0.trans (hn.mono hb0.size)
  replace KZ := Lib.hid (KZ.out.of hn)
  clear hn
  have cz := Var.c KZ.out
  have fz := Var.f KZ.out
  have lz := KZ.out.lt
  go_wp2
  refine post_world ?_
  intro Wf hWf
  have kf : Var Wf (w.heap.size + 1 + 1) r := by rw [hWf]; exact Var.put4 KZ.out r
  have hbf : Below w.heap.size w Wf := by rw [hWf]; exact below_set4 hb0 (by omega) (.int .u64 (wd0 r)) (.int .u64 (wd1 r)) (.int .u64 (wd2 r)) (.int .u64 (wd3 r))
  have c := Var.c kf
  clear hWf cz
  simp [bodyPost, results, Try.results86, go_sem, c]
  exact hbf

/-- the square of how far one lies from another one -/
def frr (ax ay bx b_y : Int) : Int := (ax - bx) * (ax - bx) + (ay - b_y) * (ay - b_y)
theorem frr_bd {ax ay bx b_y : Int} (h1 : Co ax) (h2 : Co ay) (h3 : Co bx) (h4 : Co b_y) : -38685626227668133590597632 ≤ frr ax ay bx b_y ∧ frr ax ay bx b_y ≤ 38685626227668133590597632 := by
  have a1 := mul_bd (by decide) (co_sub h1 h3) (co_sub h1 h3)
  have a2 := mul_bd (by decide) (co_sub h2 h4) (co_sub h2 h4)
  unfold frr
  generalize (ax - bx) * (ax - bx) = p at *
  generalize (ay - b_y) * (ay - b_y) = q at *
  omega
theorem far_any (ax ay bx b_y : Int) (h1 : Co ax) (h2 : Co ay) (h3 : Co bx) (h4 : Co b_y) (w : World) :
    Calls Try.prog 86 #[pI ax ay, pI bx b_y] w fun e w' => e = .returned (wI (frr ax ay bx b_y)) ∧ Below w.heap.size w w' := by
  have a1 := mul_bd (by decide) (co_sub h1 h3) (co_sub h1 h3)
  have a2 := mul_bd (by decide) (co_sub h2 h4) (co_sub h2 h4)
  have a3 := frr_bd h1 h2 h3 h4
  refine far_go ax ay bx b_y _ _ _ _ _ rfl rfl ?_ ?_ rfl rfl rfl ?_ ?_ ?_ w
  · have := co_sub h1 h3; unfold In64; omega
  · have := co_sub h2 h4; unfold In64; omega
  · unfold InI b255; omega
  · unfold InI b255; omega
  · unfold frr at a3; unfold InI b255; omega
end Go.Proofs.Ytgddpkopbiendaa
