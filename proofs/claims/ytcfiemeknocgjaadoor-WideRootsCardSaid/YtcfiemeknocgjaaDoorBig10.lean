/- The walk of gromaref01's Read. Conditions: none. -/
import Derived.Test.YtcfiemeknocgjaaDoorBig9
namespace Go.Proofs.YtcfiemeknocgjaaDoor
open Go.RowKit

theorem uval_wd (x : Int) : uval [wd0 x, wd1 x, wd2 x, wd3 x] = x % b256 := by
  rw [← un4_wd]
  simp only [uval, un4, b64, b128, b192]; omega
theorem ws_wd (x : Int) : WordsOk [wd0 x, wd1 x, wd2 x, wd3 x] := by
  intro d hd
  simp only [List.mem_cons, List.not_mem_nil, or_false] at hd
  rcases hd with rfl | rfl | rfl | rfl
  · exact wd0_Wd x
  · exact wd1_Wd x
  · exact wd2_Wd x
  · exact wd3_Wd x
theorem sg_neg {x : Int} (h : ng x = true) : x % b256 - b256 = sg x := by
  rw [ng_iff] at h; unfold sg; unfold b255 b256 at *; omega
theorem sg_pos {x : Int} (h : ng x = false) : x % b256 = sg x := by
  have h' : ¬ ng x = true := by rw [h]; exact Bool.false_ne_true
  rw [ng_iff] at h'; unfold sg; unfold b255 b256 at *; omega
theorem ng_ge (x : Int) : decide (9223372036854775808 ≤ wd3 x) = ng x := by
  unfold ng
  have := wd3_Wd x
  obtain ⟨h1, h2⟩ := this
  rw [Bool.eq_iff_iff, decide_eq_true_iff, bne_iff_ne]; omega
theorem p18 : (115792089237316195423570985008687907853269984665640564039457584007913129639936 : Int) < P15 18 := by
  have : P15 18 = 32768 ^ 18 := rfl
  rw [this]; decide
theorem p256 : (2 : Int) ^ 256 = b256 := by decide
theorem sg_p18 (x : Int) : -P15 18 < sg x ∧ sg x < P15 18 := by
  have := sg_bd x; have := p18; unfold b255 at *; omega

theorem ws_new (w : World) (x : Int) : Ws (w.alloc (.cells #[.int .u64 (wd0 x), .int .u64 (wd1 x), .int .u64 (wd2 x), .int .u64 (wd3 x)] 22)) w.heap.size [wd0 x, wd1 x, wd2 x, wd3 x] := by
  have hb := Blk.new w #[.int .u64 (wd0 x), .int .u64 (wd1 x), .int .u64 (wd2 x), .int .u64 (wd3 x)] 22
  refine ⟨fun i hi => ?_, hb.lt, ws_wd x, Nat.le_refl 4⟩
  rw [hb.cell]
  match i, hi with
  | 0, _ => rfl
  | 1, _ => rfl
  | 2, _ => rfl
  | 3, _ => rfl

set_option maxRecDepth 100000 in
set_option maxHeartbeats 1000000 in
theorem Read_b (x : Int) (s : Bool) (w : World) (hx : ng x = s) :
    Calls Tryd.prog 16 #[wI x] w (GivesBig w (sg x) 18) := by
  have HX := Lib.hid hx
  have hge : decide (9223372036854775808 ≤ wd3 x) = s := (ng_ge x).trans hx
  clear hx
  go_enter Tryd.func16, Tryd.ntmps16
  go_wp2_with fail
  refine calls_w ?_
  intro W hW
  have kx : Blk W w.heap.size (wC x) 23 := by rw [hW]; exact ((Blk.new _ _ _).alloc _).alloc _
  have k0 : Blk W (w.heap.size + 1) #[.bool false, .slice none 0 0] 34 := by rw [hW]; exact (Blk.new1 _ _ _ _).alloc _
  have hws : Ws W (w.heap.size + 1 + 1) [wd0 x, wd1 x, wd2 x, wd3 x] := by
    rw [hW]
    have := ws_new ((w.alloc (.cells #[.int .u64 (wd0 x), .int .u64 (wd1 x), .int .u64 (wd2 x), .int .u64 (wd3 x)] 23)).alloc (.cells #[.bool false, .slice none 0 0] 34)) x
    simpa using this
  have hb0 : Below w.heap.size w W := by rw [hW]; exact below_a3 _ _ _ _
  clear hW
  have T := Words_any (w.heap.size + 1 + 1) 4 4 _ W hws rfl
  rw [uval_wd] at T
  refine T.mono ?_
  clear T hws
  rintro e w2 ⟨v2, rfl, hbig, hn⟩
  have hf := hbig.fit (k := 18) ⟨by have := p18; unfold b256; omega, by have := p18; unfold b256; omega⟩
  have HBG := Lib.hid hf
  have hvv := hbig.shape
  clear hbig hf
  obtain ⟨n3, a3, q3, c3, rfl⟩ := hvv
  have kx2 : Blk w2 w.heap.size (wC x) 23 := kx.of hn
  have k2 := k0.of hn
  have hb2 := hb0.trans (hn.mono hb0.size)
  have cx : w2.cell? ⟨w.heap.size, 3, none⟩ = some (.int .u64 (wd3 x)) := kx2.cell 3
  have lx := Blk.lt kx2
  have d0 := k2.cell 0
  have d1 := k2.cell 1
  have f0 := k2.free 0
  have f1 := k2.free 1
  simp only [List.getElem?_toArray, List.getElem?_cons_zero, List.getElem?_cons_succ] at d0 d1
  have l2 := k2.lt
  have K2 := Lib.hid k2
  clear hn kx k0 k2 hb0 kx2
  cases s
  · go_wp2
    simp [bodyPost, results, Tryd.results16, go_sem, d0, d1, l2]
    refine ⟨_, rfl, ?_, (set2_below hb2 (Nat.le_succ _) _ _).alloc (by rw [size_set, size_set]; exact hb2.size) _⟩
    rw [← sg_pos HX.out]
    exact (HBG.out.set2 d0 (.bool n3) (.slice a3 q3 c3)).of ((Below.refl _ _).alloc (Nat.le_refl _) _)
  · clear d0 d1 f0 f1
    go_wp2_with fail
    refine name_world ?_
    intro W3 hW3
    have kb : Blk W3 w2.heap.size #[.bool n3, .slice a3 q3 c3] 34 := by rw [hW3]; exact Blk.new _ _ _
    have h23 : Below w2.heap.size w2 W3 := by rw [hW3]; exact below_a1 _ _
    clear hW3
    have d0 := kb.cell 0
    have d1 := kb.cell 1
    simp only [List.getElem?_toArray, List.getElem?_cons_zero, List.getElem?_cons_succ] at d0 d1
    have l1 := kb.lt
    have hb3 := hb2.trans (h23.mono hb2.size)
    have HB1 := Lib.hid (HBG.out.of h23)
    have K3 := Lib.hid (K2.out.of h23)
    clear cx lx hge kb l2 K2 h23 HBG hb2
    obtain ⟨W, rfl⟩ : ∃ W, W = W3 := ⟨_, rfl⟩
    refine wp_region_up W.heap.size 2 [(true, 0), (false, 1)] (by kernel_rfl) (by kernel_rfl) (fun _ _ d _ _ h => by cases d <;> exact h) ?_
    have hb : Below W.heap.size W W.drew := (Below.refl _ _).drew
    refine wpS_takeL rfl rfl ?_
    go_big_quiet_step (rfl)
    refine wpQuiet_nil ?_
    refine wpS_doL rfl ?_
    intro K hK
    go_wp2_with ((go_at_call 21; refine (Power_any 256 _ (Nat.le_refl _)).mono ?_; rintro e w4 ⟨vm, rfl, hbm, hn⟩; have HM := Lib.hid hbm; have hvm := hbm.shape; clear hbm; obtain ⟨n4, a4, q4, e4, rfl⟩ := hvm))
    replace hb := hb.trans (hn.mono hb.size)
    refine hK.out _ _ (up_iff.2 hb) ?_
    clear hK K
    clear hn
    refine wpS_nil ?_
    simp only [List.drop_succ_cons, List.drop_zero]
    have hb4 : Below w.heap.size w w4 := hb3.trans (hb.mono hb3.size)
    have k4 := K3.out.of hb
    have HB2 := Lib.hid (HB1.out.of hb)
    clear d0 d1 l1 K3 hb hb3 HB1
    go_wp2_with fail
    refine (bigSub_any _ _ (x % b256) (2 ^ 256) 18 _ HB2.out HM.out (by decide)).mono ?_
    rintro e w5 ⟨v5, rfl, hbig, hn⟩
    rw [p256, sg_neg HX.out] at hbig
    have hf := hbig.fit (k := 18) (sg_p18 x)
    have HBG := Lib.hid hf
    have hvv := hbig.shape
    clear hbig hf
    obtain ⟨n5, a5, q5, c5, rfl⟩ := hvv
    have k5 := k4.of hn
    have d0 := k5.cell 0
    have d1 := k5.cell 1
    have f0 := k5.free 0
    have f1 := k5.free 1
    simp only [List.getElem?_toArray, List.getElem?_cons_zero, List.getElem?_cons_succ] at d0 d1
    have hb5 := hb4.trans (hn.mono hb4.size)
    clear hn k4 k5 hb4 HB2 HM
    go_wp2
    simp [bodyPost, results, Tryd.results16, go_sem, d0, d1]
    exact ⟨_, rfl, HBG.out.set2 d0 (.bool n5) (.slice a5 q5 c5), set2_below hb5 (Nat.le_succ _) _ _⟩
theorem Read_any (x : Int) (w : World) : Calls Tryd.prog 16 #[wI x] w (GivesBig w (sg x) 18) := Read_b x _ w rfl
end Go.Proofs.YtcfiemeknocgjaaDoor
