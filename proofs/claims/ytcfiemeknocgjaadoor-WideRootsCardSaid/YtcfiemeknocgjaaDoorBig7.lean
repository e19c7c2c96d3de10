/- gromaref01's Sub. -/
import Derived.Test.YtcfiemeknocgjaaDoorBig6
namespace Go.Proofs.YtcfiemeknocgjaaDoor
open Go.RowKit
set_option maxRecDepth 100000 in
set_option maxHeartbeats 600000 in
theorem bigSub_any (v v' : Value) (n m : Int) (L : Nat) (w : World) (h : Big w v n L) (h' : Big w v' m L) (hL : L < 268435456) :
    Calls Tryd.prog 40 #[v, v'] w (GivesBig w (n - m) (L + 1)) := by
  have hv := h.shape
  have hv' := h'.shape
  obtain ⟨n1, a1, q1, e1, rfl⟩ := hv
  obtain ⟨n2, a2, q2, e2, rfl⟩ := hv'
  have HA := Lib.hid h
  have HB := Lib.hid h'
  have HL := Lib.hid hL
  clear h h' hL
  go_enter Tryd.func40, Tryd.ntmps40
  go_wp2_with fail
  refine name_world ?_
  intro W hW
  have k0 : Blk W w.heap.size #[.bool n1, .slice a1 q1 e1] 34 := by rw [hW]; exact ((Blk.new _ _ _).alloc _).alloc _
  have k1 : Blk W (w.heap.size + 1) #[.bool n2, .slice a2 q2 e2] 34 := by rw [hW]; exact (Blk.new1 _ _ _ _).alloc _
  have k2 : Blk W (w.heap.size + 1 + 1) #[.bool false, .slice none 0 0] 34 := by rw [hW]; exact Blk.new2 _ _ _ _ _
  have hb0 : Below w.heap.size w W := by rw [hW]; exact below_a3 _ _ _ _
  clear hW
  have c0 := k0.cell 0
  have c1 := k0.cell 1
  have d0 := k1.cell 0
  have d1 := k1.cell 1
  simp only [List.getElem?_toArray, List.getElem?_cons_zero, List.getElem?_cons_succ] at c0 c1 d0 d1
  have l0 := k0.lt
  have l1 := k1.lt
  have K2 := Lib.hid k2
  clear k0 k1 k2
  refine wp_region_up W.heap.size 3 [(true, 0), (true, 1), (false, 2)] (by kernel_rfl) (by kernel_rfl) (fun _ _ d _ _ h => by cases d <;> exact h) ?_
  have hb : Below W.heap.size W W.drew := (Below.refl _ _).drew
  iterate 2
    refine wpS_takeL rfl rfl ?_
    go_big_quiet_step (rfl)
    refine wpQuiet_nil ?_
  refine wpS_doL rfl ?_
  intro K hK
  go_wp2_with ((go_at_call 18; refine (Minus_any _ m L _ (HB.out.of (hb0.trans (hb.mono hb0.size)))).mono ?_; rintro e w2 ⟨vm, rfl, hbm, hn⟩; have HM := Lib.hid hbm; have hvm := hbm.shape; clear hbm; obtain ⟨n3, a3, q3, e3, rfl⟩ := hvm))
  replace hb := hb.trans (hn.mono hb.size)
  refine hK.out _ _ (up_iff.2 hb) ?_
  clear hK K
  clear hn
  refine wpS_nil ?_
  simp only [List.drop_succ_cons, List.drop_zero]
  have hb1 : Below w.heap.size w w2 := hb0.trans (hb.mono hb0.size)
  have k2 : Blk w2 (w.heap.size + 1 + 1) #[.bool false, .slice none 0 0] 34 := K2.out.of hb
  clear c0 c1 d0 d1 l0 l1 K2 hb hb0
  go_wp2_with ((go_at_call 23; refine (bigAdd_any _ _ n (-m) L _ (HA.out.of hb1) HM.out HL.out).mono ?_; rintro e w3 ⟨v3, rfl, hbig, hn⟩; have HBG := Lib.hid hbig; have hvv := hbig.shape; clear hbig; obtain ⟨n4, a4, q4, e4, rfl⟩ := hvv; replace k2 : Blk w3 _ _ _ := k2.of hn; have d0 := k2.cell 0; have d1 := k2.cell 1; have f0 := k2.free 0; have f1 := k2.free 1; simp only [List.getElem?_toArray, List.getElem?_cons_zero, List.getElem?_cons_succ] at d0 d1; have hb2 := hb1.trans (hn.mono hb1.size); clear hn k2 hb1))
  simp [bodyPost, results, Tryd.results40, go_sem, d0, d1]
  refine ⟨_, rfl, ?_, set2_below hb2 ?_ _ _⟩
  · have := HBG.out.set2 d0 (.bool n4) (.slice a4 q4 e4)
    rw [show n + -m = n - m from by omega] at this
    exact this
  · omega
end Go.Proofs.YtcfiemeknocgjaaDoor
