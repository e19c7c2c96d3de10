/- My texts Bs8, AwC, Cr7, Cr8, CrN, CrN2, CrA1, BsG, CrA2, CrA3, CrA4, CrA5, CrA6, CrA7, joined: what the last one needs of them. Conditions: as each lemma says. -/
import Derived.Test.YtlcbomjdbdgbmaaSCm5
import Derived.KernelRfl
import Derived.StillTail
import Derived.OrdersHeld
import Derived.Deep.Quiet
import Derived.Below
import Derived.WalkKit
import Derived.Test.YtlcbomjdbdgbmaaProg
import Derived.WalkSpells
import Derived.StillTactics
import Derived.Laws.Pointers
import Derived.Deep.RegionHeld3
import Derived.RowKit3
import Derived.Deep.QuietTactic
import Derived.BigQuiet
import Derived.BigRegion
import Derived.Lib.Hide
import Derived.WalkSmall
import Derived.Laws.BitsAllLaws
import Derived.IntWalk
import Derived.Deep.OwnRows
import Derived.Deep.LoopGhost
import Derived.Shelf.Bits.Mul64
import Derived.ProofKit
import Derived.OpenShut
import Derived.ShutString
import Derived.ChangeOld
import Derived.Lib.SmallJoins
import Derived.Laws.IdiomArrays
namespace Go.Proofs.Ytlcbomjdbdgbmaa
open Go.RowKit

end Go.Proofs.Ytlcbomjdbdgbmaa
namespace Go.Proofs.Ytlcbomjdbdgbmaa
open Go.ChangeShapes Go.WideShapes Go.ChangeAt Go.RowKit Go.Joins

theorem own : ownKnob Try.prog.godebug = none := by kernel_rfl
theorem laidOut : laidOutB Try.prog = true := by kernel_rfl

theorem in64_wf {x : Int} (h : (Lit.int .i64 x).wf = true) : In64 x := by
  simp [Lit.wf, IntKind.min, IntKind.max, IntKind.signed, IntKind.bits] at h
  unfold In64; omega

section
variable {H : Type} {enc : TypeId × Value → H} {w : World} {base : Nat} {spare : Nat → Bool} {held : Bool}

end
end Go.Proofs.Ytlcbomjdbdgbmaa
namespace Go.Proofs.Ytlcbomjdbdgbmaa
open Go.ChangeShapes Go.WideShapes Go.ChangeAt Go.RowKit Go.Joins
section
variable {H : Type} {enc : TypeId × Value → H} {w : World} {base : Nat} {spare : Nat → Bool} {held : Bool}
theorem open_pt2 {fuel : Nat} {c0 c1 : Value} {x : DataW H × List MemPlace} (h : DataW.trod enc Try.prog w base spare held fuel 24 [c0, c1] = some x) :
    ∃ a b, In64 a ∧ In64 b ∧ c0 = .int .i64 a ∧ c1 = .int .i64 b := by
  obtain ⟨xs, k, _, hx, _, hlen, hg⟩ := DataW.trod_struct Try.underlying24 h
  have hC1 : Try.prog.cellsOf 3 = 1 := by kernel_rfl
  match xs, hlen with
  | [y0, y1], _ =>
    have g0 := hg 0 _ rfl
    have g1 := hg 1 _ rfl
    simp [hC1] at g0 g1
    obtain ⟨a0, e0, _, k0⟩ := DataW.trod_int Try.underlying3 g0
    obtain ⟨a1, e1, _, k1⟩ := DataW.trod_int Try.underlying3 g1
    simp at e0 e1
    exact ⟨a0, a1, in64_wf k0, in64_wf k1, e0, e1⟩
end
end Go.Proofs.Ytlcbomjdbdgbmaa
namespace Go.Proofs.Ytlcbomjdbdgbmaa
open Go.RowKit

theorem ws1 {W : World} {b : Nat} {u : Int} {t : TypeId} (hu : Wd u) (h : Blk W b #[.int .u64 u] t) : Ws W b [u] :=
  ⟨fun i hi => by
    match i, hi with
    | 0, _ => exact h.cell 0, h.lt, fun d hd => by rw [List.mem_singleton.1 hd]; exact hu, by simp⟩

set_option maxRecDepth 100000 in
set_option maxHeartbeats 1000000 in
theorem bigOf_pos (n : Int) (w : World) (h0 : 0 ≤ n) (h1 : n < 9223372036854775808) : Calls Try.prog 66 #[.int .i64 n] w (GivesBig w n 5) := by
  go_enter Try.func66, Try.ntmps66
  go_wp2_with fail
  refine calls_w ?_
  intro W hW
  have k0 : Blk W w.heap.size #[.bool false, .slice none 0 0] 28 := by rw [hW]; exact (Blk.new w _ _).alloc _
  have kl : Blk W (w.heap.size + 1) #[.int .u64 n] 33 := by rw [hW]; exact Blk.new1 w _ _ _
  have hb0 : Below w.heap.size w W := by rw [hW]; exact below_a2 _ _ _
  clear hW
  have T := Words_any (w.heap.size + 1) 1 1 [n] W (ws1 ⟨h0, by omega⟩ kl) rfl
  rw [show uval [n] = n by simp [uval]] at T
  refine T.mono ?_
  clear T
  rintro e u1 ⟨vm, rfl, hbm, hn⟩
  replace k0 := k0.of hn
  replace hb0 := hb0.trans (hn.mono hb0.size)
  have HBG := Lib.hid hbm
  have hvm := hbm.shape
  clear hbm hn kl
  obtain ⟨n5, a5, q5, c5, rfl⟩ := hvm
  have d0 := k0.cell 0
  have d1 := k0.cell 1
  have f0 := k0.free 0
  have f1 := k0.free 1
  simp only [List.getElem?_toArray, List.getElem?_cons_zero, List.getElem?_cons_succ] at d0 d1
  clear k0
  go_wp2
  simp [bodyPost, results, Try.results66, go_sem, d0, d1]
  exact ⟨_, rfl, HBG.out.set2 d0 (.bool n5) (.slice a5 q5 c5), set2_below hb0 (Nat.le_refl _) _ _⟩

set_option maxRecDepth 100000 in
set_option maxHeartbeats 1000000 in
theorem bigOf_neg (n : Int) (w : World) (h0 : n < 0) (h1 : -9223372036854775808 ≤ n) : Calls Try.prog 66 #[.int .i64 n] w (GivesBig w n 5) := by
  have hn0 : ¬ 0 ≤ n := by omega
  go_enter Try.func66, Try.ntmps66
  go_wp2_with fail
  refine calls_w ?_
  intro W hW
  have k0 : Blk W w.heap.size #[.bool false, .slice none 0 0] 28 := by rw [hW]; exact (Blk.new w _ _).alloc _
  have kl : Blk W (w.heap.size + 1) #[.int .u64 (-(n + 1) + 1)] 33 := by rw [hW]; exact Blk.new1 w _ _ _
  have hb0 : Below w.heap.size w W := by rw [hW]; exact below_a2 _ _ _
  clear hW
  have T := Words_any (w.heap.size + 1) 1 1 [-(n + 1) + 1] W (ws1 ⟨by omega, by omega⟩ kl) rfl
  rw [show uval [-(n + 1) + 1] = -n by simp [uval]; omega] at T
  refine T.mono ?_
  clear T
  rintro e u1 ⟨vm, rfl, hbm, hn⟩
  replace k0 := k0.of hn
  replace hb0 := hb0.trans (hn.mono hb0.size)
  have HB1 := Lib.hid hbm
  have hvm := hbm.shape
  clear hbm hn kl
  obtain ⟨n4, a4, q4, c4, rfl⟩ := hvm
  go_wp2_with fail
  have T := Minus_any _ _ _ _ HB1.out
  rw [Int.neg_neg] at T
  refine T.mono ?_
  clear T
  rintro e u2 ⟨vm, rfl, hbm, hn⟩
  replace k0 := k0.of hn
  replace hb0 := hb0.trans (hn.mono hb0.size)
  have HBG := Lib.hid hbm
  have hvm := hbm.shape
  clear hbm hn HB1
  obtain ⟨n5, a5, q5, c5, rfl⟩ := hvm
  have d0 := k0.cell 0
  have d1 := k0.cell 1
  have f0 := k0.free 0
  have f1 := k0.free 1
  simp only [List.getElem?_toArray, List.getElem?_cons_zero, List.getElem?_cons_succ] at d0 d1
  clear k0
  go_wp2
  simp [bodyPost, results, Try.results66, go_sem, d0, d1]
  exact ⟨_, rfl, HBG.out.set2 d0 (.bool n5) (.slice a5 q5 c5), set2_below hb0 (Nat.le_refl _) _ _⟩
theorem bigOf_any (n : Int) (w : World) (h : In64 n) : Calls Try.prog 66 #[.int .i64 n] w (GivesBig w n 5) := by
  by_cases h0 : 0 ≤ n
  · exact bigOf_pos n w h0 h.2
  · exact bigOf_neg n w (by omega) h.1
end Go.Proofs.Ytlcbomjdbdgbmaa
namespace Go.Proofs.Ytlcbomjdbdgbmaa
open Go.RowKit

theorem allocBg : AllocRuns Try.prog 28 #[.bool false, .slice none 0 0] := fun w => by kernel_rfl
theorem bigOfD_any (a b d : Int) (h : a - b = d) (g : In64 d) (w : World) : Calls Try.prog 66 #[.int .i64 (wrap64 (a - b))] w (GivesBig w d 5) := by
  subst h
  rw [show wrap64 (a - b) = a - b by unfold wrap64; unfold In64 at g; omega]
  exact bigOf_any _ w g

set_option maxRecDepth 100000 in
set_option maxHeartbeats 2000000 in
theorem rTurn_go (ax ay bx b_y cx cy d1 d2 d3 d4 p q r : Int) (h1 : bx - ax = d1) (h2 : cy - ay = d2) (h3 : b_y - ay = d3) (h4 : cx - ax = d4) (g1 : In64 d1) (g2 : In64 d2) (g3 : In64 d3) (g4 : In64 d4) (hp : d1 * d2 = p) (hq : d3 * d4 = q) (hr : p - q = r) (w : World) :
    Calls Try.prog 19 #[pI ax ay, pI bx b_y, pI cx cy] w (GivesBig w r 11) := by
  have H1 := Lib.hid h1
  have H2 := Lib.hid h2
  have H3 := Lib.hid h3
  have H4 := Lib.hid h4
  have H5 := Lib.hid hp
  have H6 := Lib.hid hq
  have H7 := Lib.hid hr
  clear h1 h2 h3 h4 hp hq hr
  go_enter Try.func19, Try.ntmps19
  go_wp2_with fail
  refine name_world ?_
  intro W hW
  have ka : Blk W w.heap.size (pC ax ay) 31 := by rw [hW]; exact (Blk.new w _ _).alloc _ |>.alloc _ |>.alloc _
  have kb : Blk W (w.heap.size + 1) (pC bx b_y) 31 := by rw [hW]; exact (Blk.new1 w _ _ _).alloc _ |>.alloc _
  have kc : Blk W (w.heap.size + 1 + 1) (pC cx cy) 31 := by rw [hW]; exact (Blk.new2 w _ _ _ _).alloc _
  have kz : Blk W (w.heap.size + 1 + 1 + 1) #[.bool false, .slice none 0 0] 28 := by rw [hW]; exact Blk.new3 w _ _ _ _ _
  have hb0 : Below w.heap.size w W := by rw [hW]; exact (below_a3 _ _ _ _).alloc (by simp; omega) _
  clear hW
  have ca0 := ka.cell 0
  have ca1 := ka.cell 1
  have cb0 := kb.cell 0
  have cb1 := kb.cell 1
  have cc0 := kc.cell 0
  have cc1 := kc.cell 1
  simp only [List.getElem?_toArray, List.getElem?_cons_zero, List.getElem?_cons_succ] at ca0 ca1 cb0 cb1 cc0 cc1
  have la := ka.lt
  have lb := kb.lt
  have lc := kc.lt
  have KA := Lib.hid ka
  have KB := Lib.hid kb
  have KC := Lib.hid kc
  have KZ := Lib.hid kz
  clear ka kb kc kz
  refine wp_region_float1 14 13 [(true, 0), (true, 1), (true, 2), (true, 3), (true, 4), (true, 6), (true, 7), (true, 8), (true, 9), (true, 10), (false, 5), (false, 11), (false, 12)] (by kernel_rfl) (by kernel_rfl) (fun _ _ d _ _ => by cases d <;> exact Iff.rfl) rfl rfl rfl allocBg ?_
  have hb : Below W.heap.size W W.drew := (Below.refl _ _).drew
  iterate 10
    refine wpF_take rfl rfl ?_
    go_big_quiet_step (rfl)
    refine wpQuiet_nil ?_
  refine wpF_do rfl ?_
  intro w1 hg K hK
  replace hb := hb.trans (hg.mono hb.size)
  try replace HM := Lib.hid (HM.out.of hg) ;; try replace HN := Lib.hid (HN.out.of hg)
  clear hg
  go_wp2_with ((first | (go_at_call 66; (with_reducible refine (bigOfD_any bx ax d1 H1.out g1 _).mono ?_); rintro e w4 ⟨vm, rfl, hbm, hn⟩; have HM := Lib.hid hbm; have hvm := hbm.shape; clear hbm; obtain ⟨n4, a4, q4, e4, rfl⟩ := hvm) | (go_at_call 66; (with_reducible refine (bigOfD_any cy ay d2 H2.out g2 _).mono ?_); rintro e w5 ⟨vm, rfl, hbm, hn⟩; have HN := Lib.hid hbm; have hvm := hbm.shape; replace HM := Lib.hid (HM.out.of hn); clear hbm; obtain ⟨n5, a5, q5, e5, rfl⟩ := hvm) | (go_at_call 65; refine (bigMul_any _ _ d1 d2 5 5 _ HM.out HN.out (by decide)).mono ?_; rintro e w6 ⟨vm, rfl, hbm, hn⟩; rw [H5.out] at hbm; have HP := Lib.hid hbm; have hvm := hbm.shape; clear hbm HM HN; obtain ⟨n6, a6, q6, e6, rfl⟩ := hvm)))
  refine hK.out _ _ hn ?_
  replace hb := hb.trans (hn.mono hb.size)
  clear hK K
  clear hn
  refine wpF_do rfl ?_
  intro w1 hg K hK
  replace hb := hb.trans (hg.mono hb.size)
  try replace HM := Lib.hid (HM.out.of hg) ;; try replace HN := Lib.hid (HN.out.of hg)
  clear hg
  go_wp2_with ((first | (go_at_call 66; (with_reducible refine (bigOfD_any bx ax d1 H1.out g1 _).mono ?_); rintro e w4 ⟨vm, rfl, hbm, hn⟩; have HM := Lib.hid hbm; have hvm := hbm.shape; clear hbm; obtain ⟨n4, a4, q4, e4, rfl⟩ := hvm) | (go_at_call 66; (with_reducible refine (bigOfD_any cy ay d2 H2.out g2 _).mono ?_); rintro e w5 ⟨vm, rfl, hbm, hn⟩; have HN := Lib.hid hbm; have hvm := hbm.shape; replace HM := Lib.hid (HM.out.of hn); clear hbm; obtain ⟨n5, a5, q5, e5, rfl⟩ := hvm) | (go_at_call 65; refine (bigMul_any _ _ d1 d2 5 5 _ HM.out HN.out (by decide)).mono ?_; rintro e w6 ⟨vm, rfl, hbm, hn⟩; rw [H5.out] at hbm; have HP := Lib.hid hbm; have hvm := hbm.shape; clear hbm HM HN; obtain ⟨n6, a6, q6, e6, rfl⟩ := hvm)))
  refine hK.out _ _ hn ?_
  replace hb := hb.trans (hn.mono hb.size)
  clear hK K
  clear hn
  refine wpF_do rfl ?_
  intro w1 hg K hK
  replace hb := hb.trans (hg.mono hb.size)
  try replace HM := Lib.hid (HM.out.of hg) ;; try replace HN := Lib.hid (HN.out.of hg)
  clear hg
  go_wp2_with ((first | (go_at_call 66; (with_reducible refine (bigOfD_any bx ax d1 H1.out g1 _).mono ?_); rintro e w4 ⟨vm, rfl, hbm, hn⟩; have HM := Lib.hid hbm; have hvm := hbm.shape; clear hbm; obtain ⟨n4, a4, q4, e4, rfl⟩ := hvm) | (go_at_call 66; (with_reducible refine (bigOfD_any cy ay d2 H2.out g2 _).mono ?_); rintro e w5 ⟨vm, rfl, hbm, hn⟩; have HN := Lib.hid hbm; have hvm := hbm.shape; replace HM := Lib.hid (HM.out.of hn); clear hbm; obtain ⟨n5, a5, q5, e5, rfl⟩ := hvm) | (go_at_call 65; refine (bigMul_any _ _ d1 d2 5 5 _ HM.out HN.out (by decide)).mono ?_; rintro e w6 ⟨vm, rfl, hbm, hn⟩; rw [H5.out] at hbm; have HP := Lib.hid hbm; have hvm := hbm.shape; clear hbm HM HN; obtain ⟨n6, a6, q6, e6, rfl⟩ := hvm)))
  refine hK.out _ _ hn ?_
  replace hb := hb.trans (hn.mono hb.size)
  clear hK K
  clear hn
  refine wpF_nil ?_
  clear hb
  intro w1 hg hb b1 lb1 nb1
  replace HP := Lib.hid (HP.out.of hg)
  clear hg
  simp only [Act.put, ptrTo, List.setIfInBounds_toArray, List.set_cons_succ, List.set_cons_zero]
  simp only [List.drop_succ_cons, List.drop_zero]
  have kx : Blk w1 b1 #[.bool false, .slice none 0 0] 28 := nb1
  have v0 := kx.cell 0
  have v1 := kx.cell 1
  have f0 := kx.free 0
  have f1 := kx.free 1
  simp only [List.getElem?_toArray, List.getElem?_cons_zero, List.getElem?_cons_succ] at v0 v1
  have na : w.heap.size ≠ b1 := by omega
  have nb : w.heap.size + 1 ≠ b1 := by omega
  have nc : w.heap.size + 1 + 1 ≠ b1 := by omega
  have nz : w.heap.size + 1 + 1 + 1 ≠ b1 := by have := KZ.out.lt; omega
  have hge : w.heap.size ≤ b1 := Nat.le_trans hb0.size lb1
  have NN := Lib.hid (And.intro na (And.intro nb (And.intro nc nz)))
  have KX := Lib.hid kx
  have V0 := Lib.hid v0
  clear ca0 ca1 cb0 cb1 cc0 cc1 la lb lc nb1 kx na nb nc nz
  go_wp2_with fail
  refine name_world ?_
  intro V hV
  have kx : Blk V b1 #[.bool n6, .slice a6 q6 e6] 28 := by rw [hV]; exact (Blk.put KX.out 0 _).put 1 _
  have ka : Blk V w.heap.size (pC ax ay) 31 := by rw [hV]; exact ((KA.out.of hb).set NN.out.1 _ _ _).set NN.out.1 _ _ _
  have kb : Blk V (w.heap.size + 1) (pC bx b_y) 31 := by rw [hV]; exact ((KB.out.of hb).set NN.out.2.1 _ _ _).set NN.out.2.1 _ _ _
  have kc : Blk V (w.heap.size + 1 + 1) (pC cx cy) 31 := by rw [hV]; exact ((KC.out.of hb).set NN.out.2.2.1 _ _ _).set NN.out.2.2.1 _ _ _
  have kz : Blk V (w.heap.size + 1 + 1 + 1) #[.bool false, .slice none 0 0] 28 := by rw [hV]; exact ((KZ.out.of hb).set NN.out.2.2.2 _ _ _).set NN.out.2.2.2 _ _ _
  have hbV : Below w.heap.size w V := by rw [hV]; exact set2_below (hb0.trans (hb.mono hb0.size)) hge _ _
  replace HP := Lib.hid (show Big V (.agg #[.bool n6, .slice a6 q6 e6]) p 10 by rw [hV]; exact HP.out.set2 V0.out (.bool n6) (.slice a6 q6 e6))
  clear hV hb hb0 KA KB KC KZ KX NN V0 v0 v1 f0 f1 hge lb1
  have ca0 := ka.cell 0
  have ca1 := ka.cell 1
  have cb0 := kb.cell 0
  have cb1 := kb.cell 1
  have cc0 := kc.cell 0
  have cc1 := kc.cell 1
  have cx0 := kx.cell 0
  have cx1 := kx.cell 1
  simp only [List.getElem?_toArray, List.getElem?_cons_zero, List.getElem?_cons_succ] at ca0 ca1 cb0 cb1 cc0 cc1 cx0 cx1
  have la := ka.lt
  have lb := kb.lt
  have lc := kc.lt
  have lx := kx.lt
  have KZ := Lib.hid kz
  clear ka kb kc kz kx
  refine wp_region_up V.heap.size 14 [(true, 0), (true, 1), (true, 2), (true, 3), (true, 4), (true, 5), (true, 7), (true, 8), (true, 9), (true, 10), (true, 11), (false, 6), (false, 12), (false, 13)] (by kernel_rfl) (by kernel_rfl) (fun _ _ d _ _ h => by cases d <;> exact h) ?_
  have hb : Below V.heap.size V V.drew := (Below.refl _ _).drew
  iterate 11
    refine wpS_takeL rfl rfl ?_
    go_big_quiet_step (rfl)
    refine wpQuiet_nil ?_
  refine wpS_doL rfl ?_
  intro K hK
  try replace HM := Lib.hid (HM.out.of hg) ;; try replace HN := Lib.hid (HN.out.of hg)
  go_wp2_with ((first | (go_at_call 66; (with_reducible refine (bigOfD_any b_y ay d3 H3.out g3 _).mono ?_); rintro e w4 ⟨vm, rfl, hbm, hn⟩; have HM := Lib.hid hbm; have hvm := hbm.shape; clear hbm; obtain ⟨n7, a7, q7, e7, rfl⟩ := hvm) | (go_at_call 66; (with_reducible refine (bigOfD_any cx ax d4 H4.out g4 _).mono ?_); rintro e w5 ⟨vm, rfl, hbm, hn⟩; have HN := Lib.hid hbm; have hvm := hbm.shape; replace HM := Lib.hid (HM.out.of hn); clear hbm; obtain ⟨n8, a8, q8, e8, rfl⟩ := hvm) | (go_at_call 65; refine (bigMul_any _ _ d3 d4 5 5 _ HM.out HN.out (by decide)).mono ?_; rintro e w6 ⟨vm, rfl, hbm, hn⟩; rw [H6.out] at hbm; have HQ := Lib.hid hbm; have hvm := hbm.shape; clear hbm HM HN; obtain ⟨n9, a9, q9, e9, rfl⟩ := hvm)))
  replace hb := hb.trans (hn.mono hb.size)
  refine hK.out _ _ (up_iff.2 hb) ?_
  clear hK K
  clear hn
  refine wpS_doL rfl ?_
  intro K hK
  try replace HM := Lib.hid (HM.out.of hg) ;; try replace HN := Lib.hid (HN.out.of hg)
  go_wp2_with ((first | (go_at_call 66; (with_reducible refine (bigOfD_any b_y ay d3 H3.out g3 _).mono ?_); rintro e w4 ⟨vm, rfl, hbm, hn⟩; have HM := Lib.hid hbm; have hvm := hbm.shape; clear hbm; obtain ⟨n7, a7, q7, e7, rfl⟩ := hvm) | (go_at_call 66; (with_reducible refine (bigOfD_any cx ax d4 H4.out g4 _).mono ?_); rintro e w5 ⟨vm, rfl, hbm, hn⟩; have HN := Lib.hid hbm; have hvm := hbm.shape; replace HM := Lib.hid (HM.out.of hn); clear hbm; obtain ⟨n8, a8, q8, e8, rfl⟩ := hvm) | (go_at_call 65; refine (bigMul_any _ _ d3 d4 5 5 _ HM.out HN.out (by decide)).mono ?_; rintro e w6 ⟨vm, rfl, hbm, hn⟩; rw [H6.out] at hbm; have HQ := Lib.hid hbm; have hvm := hbm.shape; clear hbm HM HN; obtain ⟨n9, a9, q9, e9, rfl⟩ := hvm)))
  replace hb := hb.trans (hn.mono hb.size)
  refine hK.out _ _ (up_iff.2 hb) ?_
  clear hK K
  clear hn
  refine wpS_doL rfl ?_
  intro K hK
  try replace HM := Lib.hid (HM.out.of hg) ;; try replace HN := Lib.hid (HN.out.of hg)
  go_wp2_with ((first | (go_at_call 66; (with_reducible refine (bigOfD_any b_y ay d3 H3.out g3 _).mono ?_); rintro e w4 ⟨vm, rfl, hbm, hn⟩; have HM := Lib.hid hbm; have hvm := hbm.shape; clear hbm; obtain ⟨n7, a7, q7, e7, rfl⟩ := hvm) | (go_at_call 66; (with_reducible refine (bigOfD_any cx ax d4 H4.out g4 _).mono ?_); rintro e w5 ⟨vm, rfl, hbm, hn⟩; have HN := Lib.hid hbm; have hvm := hbm.shape; replace HM := Lib.hid (HM.out.of hn); clear hbm; obtain ⟨n8, a8, q8, e8, rfl⟩ := hvm) | (go_at_call 65; refine (bigMul_any _ _ d3 d4 5 5 _ HM.out HN.out (by decide)).mono ?_; rintro e w6 ⟨vm, rfl, hbm, hn⟩; rw [H6.out] at hbm; have HQ := Lib.hid hbm; have hvm := hbm.shape; clear hbm HM HN; obtain ⟨n9, a9, q9, e9, rfl⟩ := hvm)))
  replace hb := hb.trans (hn.mono hb.size)
  refine hK.out _ _ (up_iff.2 hb) ?_
  clear hK K
  clear hn
  refine wpS_nil ?_
  simp only [List.drop_succ_cons, List.drop_zero]
  replace HP := Lib.hid (HP.out.of hb)
  replace KZ := Lib.hid (KZ.out.of hb)
  replace hbV := hbV.trans (hb.mono hbV.size)
  clear hb ca0 ca1 cb0 cb1 cc0 cc1 cx0 cx1 la lb lc lx
  go_wp2_with fail
  refine (bigSub_any _ _ p q 10 _ HP.out HQ.out (by decide)).mono ?_
  rintro e u5 ⟨v5, rfl, hbig, hn⟩
  rw [H7.out] at hbig
  have HBG := Lib.hid hbig
  have hvv := hbig.shape
  clear hbig
  obtain ⟨m5, b5, l5, r5, rfl⟩ := hvv
  have k5 := KZ.out.of hn
  have d0 := k5.cell 0
  have d1' := k5.cell 1
  have f0 := k5.free 0
  have f1 := k5.free 1
  simp only [List.getElem?_toArray, List.getElem?_cons_zero, List.getElem?_cons_succ] at d0 d1'
  have hb5 := hbV.trans (hn.mono hbV.size)
  have hge : w.heap.size ≤ w.heap.size + 1 + 1 + 1 := by omega
  clear hn k5 hbV HP HQ KZ
  go_wp2
  simp [bodyPost, results, Try.results19, go_sem, d0, d1']
  exact ⟨_, rfl, HBG.out.set2 d0 (.bool m5) (.slice b5 l5 r5), set2_below hb5 hge _ _⟩
end Go.Proofs.Ytlcbomjdbdgbmaa
namespace Go.Proofs.Ytlcbomjdbdgbmaa
open Go.RowKit

theorem rTurn_any (ax ay bx b_y cx cy : Int) (h1 : Co ax) (h2 : Co ay) (h3 : Co bx) (h4 : Co b_y) (h5 : Co cx) (h6 : Co cy) (w : World) :
    Calls Try.prog 19 #[pI ax ay, pI bx b_y, pI cx cy] w (GivesBig w (trn ax ay bx b_y cx cy) 11) := by
  refine rTurn_go ax ay bx b_y cx cy _ _ _ _ _ _ _ rfl rfl rfl rfl ?_ ?_ ?_ ?_ rfl rfl rfl w
  · have := co_sub h3 h1; unfold In64; omega
  · have := co_sub h6 h2; unfold In64; omega
  · have := co_sub h4 h2; unfold In64; omega
  · have := co_sub h5 h1; unfold In64; omega
/-- a variable that holds a point of the document's answer -/
abbrev QVar (w : World) (b : Nat) (x y : Int) : Prop := Blk w b (pC x y) 31
theorem QVar.c {w : World} {b : Nat} {x y : Int} (h : QVar w b x y) : w.cell? ⟨b, 0, none⟩ = some (.int .i64 x) ∧ w.cell? ⟨b, 1, none⟩ = some (.int .i64 y) := ⟨h.cell 0, h.cell 1⟩
theorem rR_is (x y : Int) (r : Bool) (h : rp x y = r) (w : World) : Calls Try.prog 26 #[pI x y] w fun e w' => e = .returned (.bool r) ∧ Below w.heap.size w w' := h ▸ rRight_any x y w
theorem bSign_is (v : Value) (n : Int) (L : Nat) (s : Int) (hs : n.sign = s) (w : World) (h : Big w v n L) :
    Calls Try.prog 67 #[v] w fun e w' => e = .returned (.int .i64 s) ∧ Below w.heap.size w w' := hs ▸ bigSign_any v n L w h

set_option maxRecDepth 100000 in
set_option maxHeartbeats 1000000 in
theorem Way_any (ax ay bx b_y cx cy : Int) (w : World) :
    Calls Try.prog 74 #[pI ax ay, pI bx b_y, pI cx cy] w fun e w' => e = .returned (.int .i64 (way ax ay bx b_y cx cy)) ∧ Below w.heap.size w w' := by
  unfold way rp3
  obtain ⟨x, hx⟩ : ∃ x, rp ax ay = x := ⟨_, rfl⟩
  obtain ⟨y, hy⟩ : ∃ y, rp bx b_y = y := ⟨_, rfl⟩
  obtain ⟨z, hz⟩ : ∃ z, rp cx cy = z := ⟨_, rfl⟩
  obtain ⟨s, hs⟩ : ∃ s, (trn ax ay bx b_y cx cy).sign = s := ⟨_, rfl⟩
  rw [hx, hy, hz, hs]
  have HX := Lib.hid hx
  have HY := Lib.hid hy
  have HZ := Lib.hid hz
  have HS := Lib.hid hs
  clear hx hy hz hs
  go_enter Try.func74, Try.ntmps74
  go_wp2_with fail
  first | refine calls_w ?_ | refine name_world ?_
  intro W hW
  have ka : QVar W (w.heap.size) ax ay := by rw [hW]; exact (Blk.new w _ _) |>.alloc _ |>.alloc _
  have kb : QVar W (w.heap.size + 1) bx b_y := by rw [hW]; exact (Blk.new1 w _ _ _) |>.alloc _
  have kc : QVar W (w.heap.size + 1 + 1) cx cy := by rw [hW]; exact (Blk.new2 w _ _ _ _)
  have hb0 : Below w.heap.size w W := by rw [hW]; exact below_a3 _ _ _ _
  clear hW
  refine (rR_is ax ay x HX.out _).mono ?_
  rintro e u1 ⟨rfl, hn⟩
  replace ka : QVar u1 _ _ _ := ka.of hn
  replace kb : QVar u1 _ _ _ := kb.of hn
  replace kc : QVar u1 _ _ _ := kc.of hn
  replace hb0 := hb0.trans (hn.mono hb0.size)
  clear hn 
  cases x
  · have ca := QVar.c ka
    have la := ka.lt
    have cb := QVar.c kb
    have lb := kb.lt
    have cc := QVar.c kc
    have lc := kc.lt
    go_wp2
    go_ret
    exact ⟨rfl, hb0⟩
  · have ca := QVar.c ka
    have la := ka.lt
    have cb := QVar.c kb
    have lb := kb.lt
    have cc := QVar.c kc
    have lc := kc.lt
    go_wp2_with fail
    clear ca la cb lb cc lc
    refine (rR_is bx b_y y HY.out _).mono ?_
    rintro e u2 ⟨rfl, hn⟩
    replace ka : QVar u2 _ _ _ := ka.of hn
    replace kb : QVar u2 _ _ _ := kb.of hn
    replace kc : QVar u2 _ _ _ := kc.of hn
    replace hb0 := hb0.trans (hn.mono hb0.size)
    clear hn 
    cases y
    · have ca := QVar.c ka
      have la := ka.lt
      have cb := QVar.c kb
      have lb := kb.lt
      have cc := QVar.c kc
      have lc := kc.lt
      go_wp2
      go_ret
      exact ⟨rfl, hb0⟩
    · have ca := QVar.c ka
      have la := ka.lt
      have cb := QVar.c kb
      have lb := kb.lt
      have cc := QVar.c kc
      have lc := kc.lt
      go_wp2_with fail
      clear ca la cb lb cc lc
      refine (rR_is cx cy z HZ.out _).mono ?_
      rintro e u3 ⟨rfl, hn⟩
      replace ka : QVar u3 _ _ _ := ka.of hn
      replace kb : QVar u3 _ _ _ := kb.of hn
      replace kc : QVar u3 _ _ _ := kc.of hn
      replace hb0 := hb0.trans (hn.mono hb0.size)
      clear hn 
      cases z
      · have ca := QVar.c ka
        have la := ka.lt
        have cb := QVar.c kb
        have lb := kb.lt
        have cc := QVar.c kc
        have lc := kc.lt
        go_wp2
        go_ret
        exact ⟨rfl, hb0⟩
      · have ca := QVar.c ka
        have la := ka.lt
        have cb := QVar.c kb
        have lb := kb.lt
        have cc := QVar.c kc
        have lc := kc.lt
        go_wp2_with fail
        clear ca la cb lb cc lc
        clear ka kb kc
        refine (rTurn_any ax ay bx b_y cx cy (rp_co HX.out).1 (rp_co HX.out).2 (rp_co HY.out).1 (rp_co HY.out).2 (rp_co HZ.out).1 (rp_co HZ.out).2 _).mono ?_
        rintro e u8 ⟨vm, rfl, hbm, hn⟩
        replace hb0 := hb0.trans (hn.mono hb0.size)
        have HM := Lib.hid hbm
        clear hn hbm
        go_wp2_with fail
        refine (bSign_is vm _ 11 s HS.out _ HM.out).mono ?_
        rintro e u9 ⟨rfl, hn⟩
        replace hb0 := hb0.trans (hn.mono hb0.size)
        clear hn
        go_wp2
        go_ret
        exact ⟨rfl, hb0⟩
end Go.Proofs.Ytlcbomjdbdgbmaa
namespace Go.Proofs.Ytlcbomjdbdgbmaa
open Go.RowKit

theorem trn_swap (ax ay bx b_y cx cy : Int) : trn bx b_y ax ay cx cy = -trn ax ay bx b_y cx cy := by unfold trn; grind
theorem rp3_swap (ax ay bx b_y cx cy : Int) : rp3 bx b_y ax ay cx cy = rp3 ax ay bx b_y cx cy := by
  unfold rp3; generalize rp ax ay = a; generalize rp bx b_y = b; generalize rp cx cy = c
  cases a <;> cases b <;> cases c <;> rfl
theorem way_swap (ax ay bx b_y cx cy : Int) : way bx b_y ax ay cx cy = -way ax ay bx b_y cx cy := by
  unfold way; rw [rp3_swap, trn_swap, Int.sign_neg]; cases rp3 ax ay bx b_y cx cy <;> rfl
theorem way_cases (ax ay bx b_y cx cy : Int) : way ax ay bx b_y cx cy = -1 ∨ way ax ay bx b_y cx cy = 0 ∨ way ax ay bx b_y cx cy = 1 := by
  unfold way; cases rp3 ax ay bx b_y cx cy
  · exact .inr (.inl rfl)
  · exact sign_cases _
theorem wrap_ways (ax ay bx b_y cx cy dx dy ex ey fx fy : Int) : wrap64 (way ax ay bx b_y cx cy * way dx dy ex ey fx fy) = way ax ay bx b_y cx cy * way dx dy ex ey fx fy := by
  rcases way_cases ax ay bx b_y cx cy with h | h | h <;> rcases way_cases dx dy ex ey fx fy with g | g | g <;> rw [h, g] <;> unfold wrap64 <;> omega

theorem on_lt {ax ay bx b_y px py : Int} (h : trn ax ay bx b_y px py = 0) (hl : ax < bx) :
    (ax < px ∨ ax = px ∧ ay ≤ py) ∧ (px < bx ∨ px = bx ∧ py ≤ b_y) ↔ (min ax bx ≤ px ∧ px ≤ max ax bx) ∧ min ay b_y ≤ py ∧ py ≤ max ay b_y := by
  unfold trn at h
  have hd : 0 < bx - ax := by omega
  constructor
  · intro ⟨h1, h2⟩
    have k0 : 0 ≤ px - ax := by omega
    have k1 : 0 ≤ bx - px := by omega
    refine ⟨by omega, ?_⟩
    by_cases hy : ay ≤ b_y
    · have m1 := Int.mul_nonneg (show 0 ≤ b_y - ay by omega) k0
      have m2 := Int.mul_nonneg (show 0 ≤ b_y - ay by omega) k1
      have a1 : (bx - ax) * 0 ≤ (bx - ax) * (py - ay) := by grind
      have a2 : (bx - ax) * 0 ≤ (bx - ax) * (b_y - py) := by grind
      have b1 := Int.le_of_mul_le_mul_left a1 hd
      have b2 := Int.le_of_mul_le_mul_left a2 hd
      omega
    · have m1 := Int.mul_nonneg (show 0 ≤ ay - b_y by omega) k0
      have m2 := Int.mul_nonneg (show 0 ≤ ay - b_y by omega) k1
      have a1 : (bx - ax) * 0 ≤ (bx - ax) * (ay - py) := by grind
      have a2 : (bx - ax) * 0 ≤ (bx - ax) * (py - b_y) := by grind
      have b1 := Int.le_of_mul_le_mul_left a1 hd
      have b2 := Int.le_of_mul_le_mul_left a2 hd
      omega
  · intro ⟨h1, h2⟩
    refine ⟨?_, ?_⟩
    · by_cases hx : ax < px
      · exact .inl hx
      · have hx : px = ax := by omega
        subst hx
        have : (bx - px) * (py - ay) = 0 := by grind
        rcases Int.mul_eq_zero.1 this with h | h <;> omega
    · by_cases hx : px < bx
      · exact .inl hx
      · have hx : px = bx := by omega
        subst hx
        have : (px - ax) * (py - b_y) = 0 := by grind
        rcases Int.mul_eq_zero.1 this with h | h <;> omega
theorem lex_btw {ax ay bx b_y px py : Int} (h : trn ax ay bx b_y px py = 0) (hl : ahd bx b_y ax ay = false) :
    (!ahd px py ax ay && !ahd bx b_y px py) = (btw ax bx px && btw ay b_y py) := by
  unfold ahd at hl
  have hl' : ¬(bx < ax ∨ bx = ax ∧ b_y < ay) := fun h => by
    have : (decide (bx < ax) || decide (bx = ax) && decide (b_y < ay)) = true := by simpa using h
    rw [hl] at this; cases this
  have h3 : (ax < px ∨ ax = px ∧ ay ≤ py) ∧ (px < bx ∨ px = bx ∧ py ≤ b_y) ↔ (min ax bx ≤ px ∧ px ≤ max ax bx) ∧ min ay b_y ≤ py ∧ py ≤ max ay b_y := by
    by_cases hx : ax < bx
    · exact on_lt h hx
    · obtain rfl : bx = ax := by omega
      omega
  rw [Bool.eq_iff_iff]
  unfold ahd btw
  simp only [Bool.and_eq_true, Bool.not_eq_true', Bool.or_eq_false_iff, Bool.and_eq_false_iff, decide_eq_true_eq, decide_eq_false_iff_not]
  omega
theorem ahd_asym {ax ay bx b_y : Int} (h : ahd ax ay bx b_y = true) : ahd bx b_y ax ay = false := by
  unfold ahd at *
  simp only [Bool.and_eq_true, Bool.or_eq_true, Bool.or_eq_false_iff, Bool.and_eq_false_iff, decide_eq_true_eq, decide_eq_false_iff_not] at *
  omega
theorem btw_comm (a b n : Int) : btw b a n = btw a b n := by unfold btw; rw [Int.min_comm, Int.max_comm]
/-- does one lie on a segment, by the order of points? (h: is b ahead of a) -/
def lexB (h : Bool) (ax ay bx b_y px py : Int) : Bool := bif h then !ahd px py bx b_y && !ahd ax ay px py else !ahd px py ax ay && !ahd bx b_y px py
theorem onB_lex (ax ay bx b_y px py : Int) : onB ax ay bx b_y px py = (rp3 ax ay bx b_y px py && (way ax ay bx b_y px py == 0) && lexB (ahd bx b_y ax ay) ax ay bx b_y px py) := by
  unfold onB lexB way
  cases rp3 ax ay bx b_y px py
  · rfl
  by_cases h0 : trn ax ay bx b_y px py = 0
  · rw [h0]
    cases hl : ahd bx b_y ax ay
    · rw [cond_false, cond_true, lex_btw h0 hl]; simp
    · have h1 : trn bx b_y ax ay px py = 0 := by rw [trn_swap, h0]; rfl
      rw [cond_true, cond_true, lex_btw h1 (ahd_asym hl), btw_comm, btw_comm b_y ay]; simp
  · have : ((trn ax ay bx b_y px py).sign == 0) = false := by simpa using h0
    rw [cond_true, this]; simp
theorem onB_swap (ax ay bx b_y px py : Int) : onB bx b_y ax ay px py = onB ax ay bx b_y px py := by
  unfold onB; rw [rp3_swap, trn_swap, Int.sign_neg, btw_comm, btw_comm ay]
  congr 3
  rw [Bool.eq_iff_iff]; simp
theorem onB_end (ax ay bx b_y : Int) : onB ax ay bx b_y ax ay = (rp ax ay && rp bx b_y) := by
  unfold onB
  have h : trn ax ay bx b_y ax ay = 0 := by unfold trn; grind
  have b1 : btw ax bx ax = true := by unfold btw; simp; omega
  have b2 : btw ay b_y ay = true := by unfold btw; simp; omega
  rw [h, b1, b2]; unfold rp3
  generalize rp ax ay = a; generalize rp bx b_y = b
  cases a <;> cases b <;> rfl
end Go.Proofs.Ytlcbomjdbdgbmaa
namespace Go.Proofs.Ytlcbomjdbdgbmaa
open Go.RowKit

theorem rWay_is (ax ay bx b_y cx cy r : Int) (h : way ax ay bx b_y cx cy = r) (w : World) :
    Calls Try.prog 74 #[pI ax ay, pI bx b_y, pI cx cy] w fun e w' => e = .returned (.int .i64 r) ∧ Below w.heap.size w w' := h ▸ Way_any ax ay bx b_y cx cy w
theorem Blk.put2 {w : World} {b : Nat} {p q : Value} {t : TypeId} (h : Blk w b #[p, q] t) (u v : Value) : Blk ((w.setCell ⟨b, 0, none⟩ u).setCell ⟨b, 1, none⟩ v) b #[u, v] t := (h.put 0 u).put 1 v
theorem Blk.sett {w : World} {b b' : Nat} {c : Array Value} {t : TypeId} (h : Blk w b c t) (hne : b ≠ b') (u v : Value) : Blk ((w.setCell ⟨b', 0, none⟩ u).setCell ⟨b', 1, none⟩ v) b c t := (h.set hne _ _ _).set hne _ _ _
theorem rAhead_is (ax ay bx b_y : Int) (r : Bool) (h : ahd ax ay bx b_y = r) (w : World) : Calls Try.prog 71 #[pI ax ay, pI bx b_y] w fun e w' => e = .returned (.bool r) ∧ Below w.heap.size w w' := h ▸ Ahead_any ax ay bx b_y w
set_option maxRecDepth 100000 in
set_option maxHeartbeats 2000000 in
theorem rOn_any (ax ay bx b_y cx cy : Int) (w : World) :
    Calls Try.prog 27 #[pI ax ay, pI bx b_y, pI cx cy] w fun e w' => e = .returned (.bool (onB ax ay bx b_y cx cy)) ∧ Below w.heap.size w w' := by
  rw [onB_lex]
  unfold rp3 lexB
  obtain ⟨x, hx⟩ : ∃ x, rp ax ay = x := ⟨_, rfl⟩
  obtain ⟨y, hy⟩ : ∃ y, rp bx b_y = y := ⟨_, rfl⟩
  obtain ⟨z, hz⟩ : ∃ z, rp cx cy = z := ⟨_, rfl⟩
  obtain ⟨s, hs⟩ : ∃ s : Int, way ax ay bx b_y cx cy = s := ⟨_, rfl⟩
  obtain ⟨t, ht⟩ : ∃ t : Bool, (s == 0) = t := ⟨_, rfl⟩
  obtain ⟨h, hh⟩ : ∃ h, ahd bx b_y ax ay = h := ⟨_, rfl⟩
  obtain ⟨p, hp⟩ : ∃ p, ahd cx cy bx b_y = p := ⟨_, rfl⟩
  obtain ⟨q, hq⟩ : ∃ q, ahd ax ay cx cy = q := ⟨_, rfl⟩
  obtain ⟨m, hm⟩ : ∃ m, ahd cx cy ax ay = m := ⟨_, rfl⟩
  obtain ⟨n, hn⟩ : ∃ n, ahd bx b_y cx cy = n := ⟨_, rfl⟩
  rw [hx, hy, hz, hs, ht, hh, hp, hq, hm, hn]
  have HX := Lib.hid hx
  have HY := Lib.hid hy
  have HZ := Lib.hid hz
  have HS := Lib.hid hs
  have HH := Lib.hid hh
  have HP := Lib.hid hp
  have HQ := Lib.hid hq
  have HM := Lib.hid hm
  have HN := Lib.hid hn
  clear hx hy hz hs hh hp hq hm hn
  go_enter Try.func27, Try.ntmps27
  go_wp2_with fail
  first | refine calls_w ?_ | refine name_world ?_
  intro W hW
  have ka : QVar W (w.heap.size) ax ay := by rw [hW]; exact (Blk.new w _ _) |>.alloc _ |>.alloc _
  have kb : QVar W (w.heap.size + 1) bx b_y := by rw [hW]; exact (Blk.new1 w _ _ _) |>.alloc _
  have kc : QVar W (w.heap.size + 1 + 1) cx cy := by rw [hW]; exact (Blk.new2 w _ _ _ _)
  have hb0 : Below w.heap.size w W := by rw [hW]; exact below_a3 _ _ _ _
  clear hW
  refine (rR_is ax ay x HX.out _).mono ?_
  rintro e u1 ⟨rfl, hn⟩
  replace ka : QVar u1 _ _ _ := ka.of hn
  replace kb : QVar u1 _ _ _ := kb.of hn
  replace kc : QVar u1 _ _ _ := kc.of hn
  replace hb0 := hb0.trans (hn.mono hb0.size)
  clear hn 
  cases x
  · have ca := QVar.c ka
    have la := ka.lt
    have cb := QVar.c kb
    have lb := kb.lt
    have cc := QVar.c kc
    have lc := kc.lt
    go_wp2
    go_ret
    exact ⟨rfl, hb0⟩
  · have ca := QVar.c ka
    have la := ka.lt
    have cb := QVar.c kb
    have lb := kb.lt
    have cc := QVar.c kc
    have lc := kc.lt
    go_wp2_with fail
    clear ca la cb lb cc lc
    refine (rR_is bx b_y y HY.out _).mono ?_
    rintro e u2 ⟨rfl, hn⟩
    replace ka : QVar u2 _ _ _ := ka.of hn
    replace kb : QVar u2 _ _ _ := kb.of hn
    replace kc : QVar u2 _ _ _ := kc.of hn
    replace hb0 := hb0.trans (hn.mono hb0.size)
    clear hn 
    cases y
    · have ca := QVar.c ka
      have la := ka.lt
      have cb := QVar.c kb
      have lb := kb.lt
      have cc := QVar.c kc
      have lc := kc.lt
      go_wp2
      go_ret
      exact ⟨rfl, hb0⟩
    · have ca := QVar.c ka
      have la := ka.lt
      have cb := QVar.c kb
      have lb := kb.lt
      have cc := QVar.c kc
      have lc := kc.lt
      go_wp2_with fail
      clear ca la cb lb cc lc
      refine (rR_is cx cy z HZ.out _).mono ?_
      rintro e u3 ⟨rfl, hn⟩
      replace ka : QVar u3 _ _ _ := ka.of hn
      replace kb : QVar u3 _ _ _ := kb.of hn
      replace kc : QVar u3 _ _ _ := kc.of hn
      replace hb0 := hb0.trans (hn.mono hb0.size)
      clear hn 
      cases z
      · have ca := QVar.c ka
        have la := ka.lt
        have cb := QVar.c kb
        have lb := kb.lt
        have cc := QVar.c kc
        have lc := kc.lt
        go_wp2
        go_ret
        exact ⟨rfl, hb0⟩
      · have ca := QVar.c ka
        have la := ka.lt
        have cb := QVar.c kb
        have lb := kb.lt
        have cc := QVar.c kc
        have lc := kc.lt
        go_wp2_with fail
        clear ca la cb lb cc lc
        refine (rWay_is ax ay bx b_y cx cy s HS.out _).mono ?_
        rintro e u4 ⟨rfl, hn⟩
        replace ka : QVar u4 _ _ _ := ka.of hn
        replace kb : QVar u4 _ _ _ := kb.of hn
        replace kc : QVar u4 _ _ _ := kc.of hn
        replace hb0 := hb0.trans (hn.mono hb0.size)
        clear hn 
        cases t
        · have ca := QVar.c ka
          have la := ka.lt
          have cb := QVar.c kb
          have lb := kb.lt
          have cc := QVar.c kc
          have lc := kc.lt
          go_wp2
          go_ret
          exact ⟨rfl, hb0⟩
        · have ca := QVar.c ka
          have la := ka.lt
          have cb := QVar.c kb
          have lb := kb.lt
          have cc := QVar.c kc
          have lc := kc.lt
          go_wp2_with fail
          clear ca la cb lb cc lc
          have la4 := ka.lt
          have lb4 := kb.lt
          have lc4 := kc.lt
          have HNE := Lib.hid (show (w.heap.size ≠ u4.heap.size ∧ w.heap.size + 1 ≠ u4.heap.size ∧ w.heap.size + 1 + 1 ≠ u4.heap.size ∧ w.heap.size ≠ u4.heap.size + 1 ∧ w.heap.size + 1 ≠ u4.heap.size + 1 ∧ w.heap.size + 1 + 1 ≠ u4.heap.size + 1 ∧ u4.heap.size ≠ u4.heap.size + 1 ∧ w.heap.size < u4.heap.size ∧ w.heap.size + 1 < u4.heap.size ∧ w.heap.size + 1 + 1 < u4.heap.size) from by omega)
          clear la4 lb4 lc4
          refine calls_w ?_
          intro V hV
          have kl : QVar V u4.heap.size ax ay := by rw [hV]; exact (Blk.new _ _ _).alloc _
          have km : QVar V (u4.heap.size + 1) bx b_y := by rw [hV]; exact Blk.new1 _ _ _ _
          have hbV : Below u4.heap.size u4 V := by rw [hV]; exact below_a2 _ _ _
          replace ka : QVar V _ _ _ := ka.of hbV
          replace kb : QVar V _ _ _ := kb.of hbV
          replace kc : QVar V _ _ _ := kc.of hbV
          have hge : w.heap.size ≤ u4.heap.size := hb0.size
          replace hb0 := hb0.trans (hbV.mono hb0.size)
          clear hV hbV
          refine (rAhead_is bx b_y ax ay h HH.out _).mono ?_
          rintro e u5 ⟨rfl, hn⟩
          replace ka : QVar u5 _ _ _ := ka.of hn
          replace kb : QVar u5 _ _ _ := kb.of hn
          replace kc : QVar u5 _ _ _ := kc.of hn
          replace kl : QVar u5 _ _ _ := kl.of hn
          replace km : QVar u5 _ _ _ := km.of hn
          replace hb0 := hb0.trans (hn.mono hb0.size)
          clear hn 
          cases h
          · have ca := QVar.c ka
            have la := ka.lt
            have cb := QVar.c kb
            have lb := kb.lt
            have cc := QVar.c kc
            have lc := kc.lt
            have cl := QVar.c kl
            have ll := kl.lt
            have cm := QVar.c km
            have lm := km.lt
            go_wp2_with fail
            clear ca la cb lb cc lc cl ll cm lm
            refine (rAhead_is cx cy ax ay m HM.out _).mono ?_
            rintro e u6 ⟨rfl, hn⟩
            replace ka : QVar u6 _ _ _ := ka.of hn
            replace kb : QVar u6 _ _ _ := kb.of hn
            replace kc : QVar u6 _ _ _ := kc.of hn
            replace kl : QVar u6 _ _ _ := kl.of hn
            replace km : QVar u6 _ _ _ := km.of hn
            replace hb0 := hb0.trans (hn.mono hb0.size)
            clear hn 
            cases m
            · have ca := QVar.c ka
              have la := ka.lt
              have cb := QVar.c kb
              have lb := kb.lt
              have cc := QVar.c kc
              have lc := kc.lt
              have cl := QVar.c kl
              have ll := kl.lt
              have cm := QVar.c km
              have lm := km.lt
              go_wp2_with fail
              clear ca la cb lb cc lc cl ll cm lm
              refine (rAhead_is bx b_y cx cy n HN.out _).mono ?_
              rintro e u7 ⟨rfl, hn⟩
              replace ka : QVar u7 _ _ _ := ka.of hn
              replace kb : QVar u7 _ _ _ := kb.of hn
              replace kc : QVar u7 _ _ _ := kc.of hn
              replace kl : QVar u7 _ _ _ := kl.of hn
              replace km : QVar u7 _ _ _ := km.of hn
              replace hb0 := hb0.trans (hn.mono hb0.size)
              clear hn 
              cases n
              · have ca := QVar.c ka
                have la := ka.lt
                have cb := QVar.c kb
                have lb := kb.lt
                have cc := QVar.c kc
                have lc := kc.lt
                have cl := QVar.c kl
                have ll := kl.lt
                have cm := QVar.c km
                have lm := km.lt
                go_wp2
                go_ret
                exact ⟨rfl, hb0⟩
              · have ca := QVar.c ka
                have la := ka.lt
                have cb := QVar.c kb
                have lb := kb.lt
                have cc := QVar.c kc
                have lc := kc.lt
                have cl := QVar.c kl
                have ll := kl.lt
                have cm := QVar.c km
                have lm := km.lt
                go_wp2
                go_ret
                exact ⟨rfl, hb0⟩
            · have ca := QVar.c ka
              have la := ka.lt
              have cb := QVar.c kb
              have lb := kb.lt
              have cc := QVar.c kc
              have lc := kc.lt
              have cl := QVar.c kl
              have ll := kl.lt
              have cm := QVar.c km
              have lm := km.lt
              go_wp2
              go_ret
              exact ⟨rfl, hb0⟩
          · have ca := QVar.c ka
            have la := ka.lt
            have cb := QVar.c kb
            have lb := kb.lt
            have cc := QVar.c kc
            have lc := kc.lt
            have cl := QVar.c kl
            have ll := kl.lt
            have cm := QVar.c km
            have lm := km.lt
            have fl0 := kl.free 0
            have fl1 := kl.free 1
            have fm0 := km.free 0
            have fm1 := km.free 1
            obtain ⟨n1, n2, n3, n4, n5, n6, n7, _, _, _⟩ := HNE.out
            go_wp2_with fail
            refine calls_w ?_
            intro V2 hV2
            clear ca la cb lb cc lc cl ll cm lm
            have hb2 : Below u4.heap.size u5 V2 := by rw [hV2]; exact set2_below (set2_below (Below.refl _ _) (Nat.le_refl _) _ _) (by omega) _ _
            replace ka : QVar V2 _ _ _ := ka.below hb2 HNE.out.2.2.2.2.2.2.2.1
            replace kb : QVar V2 _ _ _ := kb.below hb2 HNE.out.2.2.2.2.2.2.2.2.1
            replace kc : QVar V2 _ _ _ := kc.below hb2 HNE.out.2.2.2.2.2.2.2.2.2
            replace km : QVar V2 (u4.heap.size + 1) ax ay := by rw [hV2]; exact (km.sett (Ne.symm n7) _ _).put2 _ _
            replace kl : QVar V2 u4.heap.size bx b_y := by rw [hV2]; exact (kl.put2 _ _).sett n7 _ _
            replace hb0 := hb0.trans (hb2.mono hge)
            clear hb2 hV2 n1 n2 n3 n4 n5 n6 n7 fl0 fl1 fm0 fm1
            refine (rAhead_is cx cy bx b_y p HP.out _).mono ?_
            rintro e u6 ⟨rfl, hn⟩
            replace ka : QVar u6 _ _ _ := ka.of hn
            replace kb : QVar u6 _ _ _ := kb.of hn
            replace kc : QVar u6 _ _ _ := kc.of hn
            replace kl : QVar u6 _ _ _ := kl.of hn
            replace km : QVar u6 _ _ _ := km.of hn
            replace hb0 := hb0.trans (hn.mono hb0.size)
            clear hn 
            cases p
            · have ca := QVar.c ka
              have la := ka.lt
              have cb := QVar.c kb
              have lb := kb.lt
              have cc := QVar.c kc
              have lc := kc.lt
              have cl := QVar.c kl
              have ll := kl.lt
              have cm := QVar.c km
              have lm := km.lt
              go_wp2_with fail
              clear ca la cb lb cc lc cl ll cm lm
              refine (rAhead_is ax ay cx cy q HQ.out _).mono ?_
              rintro e u7 ⟨rfl, hn⟩
              replace ka : QVar u7 _ _ _ := ka.of hn
              replace kb : QVar u7 _ _ _ := kb.of hn
              replace kc : QVar u7 _ _ _ := kc.of hn
              replace kl : QVar u7 _ _ _ := kl.of hn
              replace km : QVar u7 _ _ _ := km.of hn
              replace hb0 := hb0.trans (hn.mono hb0.size)
              clear hn 
              cases q
              · have ca := QVar.c ka
                have la := ka.lt
                have cb := QVar.c kb
                have lb := kb.lt
                have cc := QVar.c kc
                have lc := kc.lt
                have cl := QVar.c kl
                have ll := kl.lt
                have cm := QVar.c km
                have lm := km.lt
                go_wp2
                go_ret
                exact ⟨rfl, hb0⟩
              · have ca := QVar.c ka
                have la := ka.lt
                have cb := QVar.c kb
                have lb := kb.lt
                have cc := QVar.c kc
                have lc := kc.lt
                have cl := QVar.c kl
                have ll := kl.lt
                have cm := QVar.c km
                have lm := km.lt
                go_wp2
                go_ret
                exact ⟨rfl, hb0⟩
            · have ca := QVar.c ka
              have la := ka.lt
              have cb := QVar.c kb
              have lb := kb.lt
              have cc := QVar.c kc
              have lc := kc.lt
              have cl := QVar.c kl
              have ll := kl.lt
              have cm := QVar.c km
              have lm := km.lt
              go_wp2
              go_ret
              exact ⟨rfl, hb0⟩
end Go.Proofs.Ytlcbomjdbdgbmaa

namespace Go.Proofs.Ytlcbomjdbdgbmaa
open Go.RowKit

theorem heap_setL (w : World) (b o : Nat) (l : List Value) (k : Nat) (hk : k ≠ b) : (setL w b o l).heap[k]? = w.heap[k]? := by
  induction l generalizing w o with
  | nil => rfl
  | cons v l ih => unfold setL; rw [ih, Below.heap_setCell _ _ _ _ hk]
theorem big_setL {w : World} {v : Value} {n : Int} {L b : Nat} (h : Big w v n L) {x : Value} (hd : w.cell? ⟨b, 0, none⟩ = some x) (hx : ∀ i, x ≠ .int .i64 i) (o : Nat) (l : List Value) : Big (setL w b o l) v n L := by
  obtain ⟨neg, ao, b3, cap, ds, h1, h2, h3⟩ := h
  have hne : 0 < ds.length → b3 ≠ b := by
    intro h0 e
    have := h2.cell 0 h0
    rw [e, hd] at this
    exact hx _ (Option.some.inj this)
  refine ⟨neg, ao, b3, cap, ds, h1, ⟨h2.ptr, h2.nil, h2.capl, h2.len, h2.capb, fun i hi => ?_, fun hl => ?_⟩, h3⟩
  · have e := h2.cell i hi
    unfold World.cell? at e ⊢
    rw [heap_setL _ _ _ _ _ (hne (by omega))]; exact e
  · rw [size_setL]; exact h2.blk hl
theorem bigOf_v (n d : Int) (h : n = d) (g : In64 n) (w : World) : Calls Try.prog 66 #[.int .i64 n] w (GivesBig w d 5) := h ▸ bigOf_any n w g
theorem bigMul_v (v v' : Value) (n m p : Int) (L L' : Nat) (hp : n * m = p) (w : World) (h : Big w v n L) (h' : Big w v' m L') (hL : L + L' < 268435456) :
    Calls Try.prog 65 #[v, v'] w (GivesBig w p (L + L')) := hp ▸ bigMul_any v v' n m L L' w h h' hL
theorem bigSub_v (v v' : Value) (n m p : Int) (L : Nat) (hp : n - m = p) (w : World) (h : Big w v n L) (h' : Big w v' m L) (hL : L < 268435456) :
    Calls Try.prog 68 #[v, v'] w (GivesBig w p (L + 1)) := hp ▸ bigSub_any v v' n m L w h h' hL
theorem bigMinus_v (v : Value) (n p : Int) (L : Nat) (hp : -n = p) (w : World) (h : Big w v n L) : Calls Try.prog 25 #[v] w (GivesBig w p L) := hp ▸ Minus_any v n L w h
theorem bigCmp_v (v v' : Value) (n m : Int) (L L' : Nat) (c : Int) (hc : cmpI n m = c) (w : World) (h : Big w v n L) (h' : Big w v' m L') :
    Calls Try.prog 23 #[v, v'] w fun e w' => e = .returned (.int .i64 c) ∧ Below w.heap.size w w' := hc ▸ bigCmp_any v v' n m L L' w h h'
theorem bigSign_v (v : Value) (n : Int) (L : Nat) (s : Int) (hs : n.sign = s) (w : World) (h : Big w v n L) :
    Calls Try.prog 67 #[v] w fun e w' => e = .returned (.int .i64 s) ∧ Below w.heap.size w w' := hs ▸ bigSign_any v n L w h
theorem Read_v (x d : Int) (h : x = d) (ix : InI x) (w : World) : Calls Try.prog 24 #[wI x] w (GivesBig w d 18) := by
  have := Read_any x w
  have e : sg x = d := (sg_id ix).trans h
  rw [e] at this
  exact this
theorem rRight_v (ax ay : Int) (c : Bool) (h : rp ax ay = c) (w : World) : Calls Try.prog 26 #[pI ax ay] w fun e w' => e = .returned (.bool c) ∧ Below w.heap.size w w' := h ▸ rRight_any ax ay w
theorem rAhead_v (ax ay bx b_y : Int) (c : Bool) (h : ahd ax ay bx b_y = c) (w : World) : Calls Try.prog 71 #[pI ax ay, pI bx b_y] w fun e w' => e = .returned (.bool c) ∧ Below w.heap.size w w' := h ▸ Ahead_any ax ay bx b_y w
theorem rOn_v (ax ay bx b_y cx cy : Int) (c : Bool) (h : onB ax ay bx b_y cx cy = c) (w : World) : Calls Try.prog 27 #[pI ax ay, pI bx b_y, pI cx cy] w fun e w' => e = .returned (.bool c) ∧ Below w.heap.size w w' := h ▸ rOn_any ax ay bx b_y cx cy w
end Go.Proofs.Ytlcbomjdbdgbmaa

namespace Go.Proofs.Ytlcbomjdbdgbmaa
open Go.RowKit

def rAtx (x : Int) (y : Int) : Int := x

def rAty (x : Int) (y : Int) : Int := y

def rAtw (x : Int) (y : Int) : Int := 1

def rAt_is_post (w : World) (R0 : Int) (R1 : Int) (R2 : Int) (e : Ending) (w' : World) : Prop := ∃ (m0 : Bool) (p0 : Option Addr) (q0 t0 : Nat) (m1 : Bool) (p1 : Option Addr) (q1 t1 : Nat) (m2 : Bool) (p2 : Option Addr) (q2 t2 : Nat), e = .returned (.agg #[.bool m0, .slice p0 q0 t0, .bool m1, .slice p1 q1 t1, .bool m2, .slice p2 q2 t2]) ∧ Big w' (.agg #[.bool m0, .slice p0 q0 t0]) R0 5 ∧ Big w' (.agg #[.bool m1, .slice p1 q1 t1]) R1 5 ∧ Big w' (.agg #[.bool m2, .slice p2 q2 t2]) R2 5 ∧ Below w.heap.size w w'

set_option maxRecDepth 100000 in
set_option maxHeartbeats 4000000 in

theorem rAt_is (x : Int) (y : Int)  (R0 : Int) (R1 : Int) (R2 : Int) (hR0 : rAtx x y = R0) (hR1 : rAty x y = R1) (hR2 : rAtw x y = R2) (_ix : In64 x) (_iy : In64 y)  (w : World)  :
    Calls Try.prog 61 #[.agg #[.int .i64 x, .int .i64 y]] w (rAt_is_post w R0 R1 R2) := by

  have HR0 := Lib.hid hR0
  clear hR0
  have HR1 := Lib.hid hR1
  clear hR1
  have HR2 := Lib.hid hR2
  clear hR2
  go_enter Try.func61, Try.ntmps61
  go_wp2_with fail
  first | refine calls_w ?_ | refine name_world ?_ | refine list_world ?_ | refine post_world ?_
  intro V1 hV1
  have hn : Below w.heap.size w V1 := by rw [hV1]; exact below_a2 _ _ _
  have nhb0 := hn
  have k1 : Blk V1 w.heap.size #[.int .i64 x, .int .i64 y] 31 := by rw [hV1]; exact ((Blk.new _ _ _).alloc _)
  have k2 : Blk V1 (w.heap.size + 1) #[.bool false, .slice none 0 0, .bool false, .slice none 0 0, .bool false, .slice none 0 0] 72 := by rw [hV1]; exact (Blk.new1 _ _ _ _)
  clear hV1
  have hb0 := nhb0
  clear nhb0
  have c1_0 : V1.cell? ⟨w.heap.size, 0, none⟩ = some (.int .i64 x) := k1.cell 0
  have c1_1 : V1.cell? ⟨w.heap.size, 1, none⟩ = some (.int .i64 y) := k1.cell 1
  have l1 := k1.lt
  have Kk1 := Lib.hid k1
  clear k1
  have Kk2 := Lib.hid k2
  clear k2
  refine wp_region_up V1.heap.size 5 [(true, 0), (true, 1), (true, 3), (true, 4), (false, 2)] (by kernel_rfl) (by kernel_rfl) (fun _ _ d _ _ h => by cases d <;> exact h) ?_
  have hb : Below V1.heap.size V1 V1.drew := (Below.refl _ _).drew
  iterate 4
    refine wpS_takeL rfl rfl ?_
    go_big_quiet_step (rfl)
    refine wpQuiet_nil ?_
  refine wpS_doL rfl ?_
  intro K hK
  go_wp2_with ((go_at_call 66; (with_reducible refine (bigOf_v x x rfl _ix _).mono ?_); rintro e w2 ⟨v_, rfl, hbm, hn⟩; have HB1 := Lib.hid hbm; have hvm := hbm.shape; clear hbm; obtain ⟨bn1, ba1, bl1, bc1, rfl⟩ := hvm))
  replace hb := hb.trans (hn.mono hb.size)
  refine hK.out _ _ (up_iff.2 hb) ?_
  clear hK K
  clear hn
  refine wpS_nil ?_
  simp only [List.drop_succ_cons, List.drop_zero]
  first | refine calls_w ?_ | refine name_world ?_ | refine list_world ?_ | refine post_world ?_
  intro U2 hU2
  first | subst hU2 | (rw [← hU2] at hb; clear hU2)
  clear c1_0 c1_1 l1
  have k1 := Kk1.out.of hb
  clear Kk1
  have k2 := Kk2.out.of hb
  clear Kk2
  replace hb0 := hb0.trans (hb.mono hb0.size)
  clear hb
  go_wp2_with fail
  refine (bigOf_v y y rfl _iy _).mono ?_
  rintro e U3 ⟨v_, rfl, hbm, hn⟩
  clear k1
  replace k2 := k2.of hn
  replace HB1 := Lib.hid (HB1.out.of hn)
  replace hb0 := hb0.trans (hn.mono hb0.size)
  clear hn
  have HB2 := Lib.hid hbm
  have hvm := hbm.shape
  clear hbm
  obtain ⟨bn2, ba2, bl2, bc2, rfl⟩ := hvm
  go_wp2_with fail
  refine (bigOf_v 1 1 rfl (by unfold In64; omega) _).mono ?_
  rintro e U4 ⟨v_, rfl, hbm, hn⟩
  replace k2 := k2.of hn
  replace HB1 := Lib.hid (HB1.out.of hn)
  replace HB2 := Lib.hid (HB2.out.of hn)
  replace hb0 := hb0.trans (hn.mono hb0.size)
  clear hn
  have HB3 := Lib.hid hbm
  have hvm := hbm.shape
  clear hbm
  obtain ⟨bn3, ba3, bl3, bc3, rfl⟩ := hvm
  have c2_0 : U4.cell? ⟨(w.heap.size + 1), 0, none⟩ = some (.bool false) := k2.cell 0
  have c2_1 : U4.cell? ⟨(w.heap.size + 1), 1, none⟩ = some (.slice none 0 0) := k2.cell 1
  have c2_2 : U4.cell? ⟨(w.heap.size + 1), 2, none⟩ = some (.bool false) := k2.cell 2
  have c2_3 : U4.cell? ⟨(w.heap.size + 1), 3, none⟩ = some (.slice none 0 0) := k2.cell 3
  have c2_4 : U4.cell? ⟨(w.heap.size + 1), 4, none⟩ = some (.bool false) := k2.cell 4
  have c2_5 : U4.cell? ⟨(w.heap.size + 1), 5, none⟩ = some (.slice none 0 0) := k2.cell 5
  have f2_0 := k2.free 0
  have f2_1 := k2.free 1
  have f2_2 := k2.free 2
  have f2_3 := k2.free 3
  have f2_4 := k2.free 4
  have f2_5 := k2.free 5
  have l2 := k2.lt
  have e0 : x = R0 := by rw [← HR0.out]; unfold rAtx; all_goals first | rfl | simp
  have e1 : y = R1 := by rw [← HR1.out]; unfold rAty; all_goals first | rfl | simp
  have e2 : 1 = R2 := by rw [← HR2.out]; unfold rAtw; all_goals first | rfl | simp
  subst e0
  subst e1
  subst e2
  go_wp2
  clear c2_0 c2_1 c2_2 c2_3 c2_4 c2_5 f2_0 f2_1 f2_2 f2_3 f2_4 f2_5 l2
  first | refine post_world ?_
  intro V5 hV5
  have D1 := Lib.hid k2.lt
  have D2 := Lib.hid hb0.size
  have nk2 : Blk V5 (w.heap.size + 1) #[.bool bn1, .slice ba1 bl1 bc1, .bool bn2, .slice ba2 bl2 bc2, .bool bn3, .slice ba3 bl3 bc3] 72 := by rw [hV5]; exact (blk_full _ [.bool bn1, .slice ba1 bl1 bc1, .bool bn2, .slice ba2 bl2 bc2, .bool bn3, .slice ba3 bl3 bc3] k2 rfl)
  have nhb0 : Below w.heap.size w V5 := by rw [hV5]; exact (blw_setL hb0 (by omega) 0 [.bool bn1, .slice ba1 bl1 bc1, .bool bn2, .slice ba2 bl2 bc2, .bool bn3, .slice ba3 bl3 bc3])
  replace HB1 : Hid (Big V5 (.agg #[.bool bn1, .slice ba1 bl1 bc1]) x 5) := Lib.hid (by rw [hV5]; exact (big_setL HB1.out (Blk.cell k2 0) (fun _ h => by cases h) 0 [.bool bn1, .slice ba1 bl1 bc1, .bool bn2, .slice ba2 bl2 bc2, .bool bn3, .slice ba3 bl3 bc3]))
  replace HB2 : Hid (Big V5 (.agg #[.bool bn2, .slice ba2 bl2 bc2]) y 5) := Lib.hid (by rw [hV5]; exact (big_setL HB2.out (Blk.cell k2 0) (fun _ h => by cases h) 0 [.bool bn1, .slice ba1 bl1 bc1, .bool bn2, .slice ba2 bl2 bc2, .bool bn3, .slice ba3 bl3 bc3]))
  replace HB3 : Hid (Big V5 (.agg #[.bool bn3, .slice ba3 bl3 bc3]) 1 5) := Lib.hid (by rw [hV5]; exact (big_setL HB3.out (Blk.cell k2 0) (fun _ h => by cases h) 0 [.bool bn1, .slice ba1 bl1 bc1, .bool bn2, .slice ba2 bl2 bc2, .bool bn3, .slice ba3 bl3 bc3]))
  clear k2
  clear hb0
  clear hV5
  have k2 := nk2
  clear nk2
  have hb0 := nhb0
  clear nhb0
  have g2_0 : V5.cell? ⟨(w.heap.size + 1), 0, none⟩ = some (.bool bn1) := k2.cell 0
  have g2_1 : V5.cell? ⟨(w.heap.size + 1), 1, none⟩ = some (.slice ba1 bl1 bc1) := k2.cell 1
  have g2_2 : V5.cell? ⟨(w.heap.size + 1), 2, none⟩ = some (.bool bn2) := k2.cell 2
  have g2_3 : V5.cell? ⟨(w.heap.size + 1), 3, none⟩ = some (.slice ba2 bl2 bc2) := k2.cell 3
  have g2_4 : V5.cell? ⟨(w.heap.size + 1), 4, none⟩ = some (.bool bn3) := k2.cell 4
  have g2_5 : V5.cell? ⟨(w.heap.size + 1), 5, none⟩ = some (.slice ba3 bl3 bc3) := k2.cell 5
  clear k2
  simp [bodyPost, results, Try.results61, go_sem, g2_0, g2_1, g2_2, g2_3, g2_4, g2_5]
  exact ⟨_, _, _, _, _, _, _, _, _, _, _, _, rfl, (HB1.out.mono (by decide)), (HB2.out.mono (by decide)), (HB3.out.mono (by decide)), hb0⟩

theorem pow90_v (w : World) : Calls Try.prog 90 #[.int .i64 90] w (GivesBig w 1237940039285380274899124224 7) := by
  have h := Power_any 90 w (by decide)
  rw [show (2 : Int) ^ 90 = 1237940039285380274899124224 by decide] at h
  exact h

theorem pow41_v (w : World) : Calls Try.prog 90 #[.int .i64 41] w (GivesBig w 2199023255552 3) := by
  have h := Power_any 41 w (by decide)
  rw [show (2 : Int) ^ 41 = 2199023255552 by decide] at h
  exact h

theorem alCr9_0 : AllocRuns Try.prog 28 #[.bool false, .slice none 0 0] := fun w => by kernel_rfl

def rspR (X : Int) (Y : Int) (Z : Int) : Bool := (bif decide ((Z.sign) ≤ 0) then false else (bif decide (0 < (cmpI Z 1237940039285380274899124224)) then false else (bif decide (0 ≤ (cmpI X (-(2199023255552 * Z)))) then (bif decide ((cmpI X (2199023255552 * Z)) ≤ 0) then (bif decide (0 ≤ (cmpI Y (-(2199023255552 * Z)))) then decide ((cmpI Y (2199023255552 * Z)) ≤ 0) else false) else false) else false)))

set_option maxRecDepth 100000 in
set_option maxHeartbeats 4000000 in

theorem rSpR_is (X : Int) (Y : Int) (Z : Int)  (R0 : Bool) (hR0 : rspR X Y Z = R0)  (nX : Bool) (aX : Option Addr) (lX cX : Nat) (nY : Bool) (aY : Option Addr) (lY cY : Nat) (nZ : Bool) (aZ : Option Addr) (lZ cZ : Nat) (w : World) (hX : Big w (.agg #[.bool nX, .slice aX lX cX]) X 18) (hY : Big w (.agg #[.bool nY, .slice aY lY cY]) Y 18) (hZ : Big w (.agg #[.bool nZ, .slice aZ lZ cZ]) Z 18) :
    Calls Try.prog 41 #[.agg #[.bool nX, .slice aX lX cX, .bool nY, .slice aY lY cY, .bool nZ, .slice aZ lZ cZ]] w fun e w' => e = .returned (.bool R0) ∧ Below w.heap.size w w' := by

  have HX := Lib.hid hX
  clear hX
  have HY := Lib.hid hY
  clear hY
  have HZ := Lib.hid hZ
  clear hZ
  have HR0 := Lib.hid hR0
  clear hR0
  go_enter Try.func41, Try.ntmps41
  go_wp2_with fail
  first | refine calls_w ?_ | refine name_world ?_ | refine list_world ?_ | refine post_world ?_
  intro V1 hV1
  have hn : Below w.heap.size w V1 := by rw [hV1]; exact below_a1 _ _
  replace HX := Lib.hid (HX.out.of hn)
  replace HY := Lib.hid (HY.out.of hn)
  replace HZ := Lib.hid (HZ.out.of hn)
  have nhb0 := hn
  have k1 : Blk V1 w.heap.size #[.bool nX, .slice aX lX cX, .bool nY, .slice aY lY cY, .bool nZ, .slice aZ lZ cZ] 72 := by rw [hV1]; exact (Blk.new _ _ _)
  clear hV1
  have hb0 := nhb0
  clear nhb0
  obtain ⟨r1, hr1⟩ : ∃ o_o : Int, Z.sign = o_o := ⟨_, rfl⟩
  have Hr1 := Lib.hid hr1
  clear hr1
  obtain ⟨z2, hz2⟩ : ∃ o_o : Bool, decide (r1 ≤ 0) = o_o := ⟨_, rfl⟩
  cases z2
  · have c1_4 : V1.cell? ⟨w.heap.size, 4, none⟩ = some (.bool nZ) := k1.cell 4
    have c1_5 : V1.cell? ⟨w.heap.size, 5, none⟩ = some (.slice aZ lZ cZ) := k1.cell 5
    have l1 := k1.lt
    have Kk1 := Lib.hid k1
    clear k1
    refine wp_region_up V1.heap.size 8 [(true, 0), (true, 1), (false, 2), (true, 3), (true, 4), (true, 5), (true, 6), (false, 7)] (by kernel_rfl) (by kernel_rfl) (fun _ _ d _ _ h => by cases d <;> exact h) ?_
    have hb : Below V1.heap.size V1 V1.drew := (Below.refl _ _).drew
    iterate 2
      refine wpS_takeL rfl rfl ?_
      go_big_quiet_step (rfl)
      refine wpQuiet_nil ?_
    refine wpS_doL rfl ?_
    intro K hK
    go_wp2_with ((go_at_call 67; (with_reducible refine (bigSign_v (.agg #[.bool nZ, .slice aZ lZ cZ]) Z 18 r1 Hr1.out _ (HZ.out.of hb)).mono ?_); rintro e w2 ⟨rfl, hn⟩))
    replace hb := hb.trans (hn.mono hb.size)
    refine hK.out _ _ (up_iff.2 hb) ?_
    clear hK K
    clear hn
    iterate 4
      refine wpS_takeL rfl rfl ?_
      go_big_quiet_step (rfl)
      refine wpQuiet_nil ?_
    refine wpS_doL rfl ?_
    intro K hK
    go_wp2_with ((go_at_call 90; (with_reducible refine (pow90_v _).mono ?_); rintro e w2 ⟨v_, rfl, hbm, hn⟩; have HB1 := Lib.hid hbm; have hvm := hbm.shape; clear hbm; obtain ⟨bn1, ba1, bl1, bc1, rfl⟩ := hvm))
    try replace hb := hb.trans (hn.mono hb.size)
    refine hK.out _ _ (up_iff.2 hb) ?_
    clear hK K
    try clear hn
    refine wpS_nil ?_
    simp only [List.drop_succ_cons, List.drop_zero]
    first | refine calls_w ?_ | refine name_world ?_ | refine list_world ?_ | refine post_world ?_
    intro U2 hU2
    first | subst hU2 | (rw [← hU2] at hb; clear hU2)
    clear c1_4 c1_5 l1
    have k1 := Kk1.out.of hb
    clear Kk1
    replace HX := Lib.hid (HX.out.of hb)
    replace HY := Lib.hid (HY.out.of hb)
    replace HZ := Lib.hid (HZ.out.of hb)
    replace hb0 := hb0.trans (hb.mono hb0.size)
    clear hb
    go_wp2_with fail
    obtain ⟨r3, hr3⟩ : ∃ o_o : Int, cmpI Z 1237940039285380274899124224 = o_o := ⟨_, rfl⟩
    have Hr3 := Lib.hid hr3
    clear hr3
    refine (bigCmp_v (.agg #[.bool nZ, .slice aZ lZ cZ]) (.agg #[.bool bn1, .slice ba1 bl1 bc1]) Z 1237940039285380274899124224 18 7 r3 Hr3.out _ HZ.out HB1.out).mono ?_
    rintro e U3 ⟨rfl, hn⟩
    clear HB1
    replace k1 := k1.of hn
    replace HX := Lib.hid (HX.out.of hn)
    replace HY := Lib.hid (HY.out.of hn)
    replace HZ := Lib.hid (HZ.out.of hn)
    replace hb0 := hb0.trans (hn.mono hb0.size)
    clear hn
    obtain ⟨z4, hz4⟩ : ∃ o_o : Bool, decide (0 < r3) = o_o := ⟨_, rfl⟩
    cases z4
    · go_wp2_with fail
      obtain ⟨r5, hr5⟩ : ∃ o_o : Int, 2199023255552 * Z = o_o := ⟨_, rfl⟩
      have Hr5 := Lib.hid hr5
      clear hr5
      have c1_4 : U3.cell? ⟨w.heap.size, 4, none⟩ = some (.bool nZ) := k1.cell 4
      have c1_5 : U3.cell? ⟨w.heap.size, 5, none⟩ = some (.slice aZ lZ cZ) := k1.cell 5
      have l1 := k1.lt
      have Kk1 := Lib.hid k1
      clear k1
      refine wp_region_float1 5 4 [(true, 1), (true, 2), (false, 0), (false, 3)] (by kernel_rfl) (by kernel_rfl) (fun _ _ d _ _ => by cases d <;> exact Iff.rfl) rfl rfl rfl alCr9_0 ?_
      have hb : Below U3.heap.size U3 U3.drew := (Below.refl _ _).drew
      iterate 2
        refine wpF_take rfl rfl ?_
        go_big_quiet_step (rfl)
        refine wpQuiet_nil ?_
      refine wpF_do rfl ?_
      intro w1 hg K hK
      replace hb := hb.trans (hg.mono hb.size)
      try replace HB2 := Lib.hid (HB2.out.of hg); try replace HB3 := Lib.hid (HB3.out.of hg)
      clear hg
      go_wp2_with ((go_at_call 90; (with_reducible refine (pow41_v _).mono ?_); rintro e w2 ⟨v_, rfl, hbm, hn⟩; have HB2 := Lib.hid hbm; have hvm := hbm.shape; clear hbm; obtain ⟨bn2, ba2, bl2, bc2, rfl⟩ := hvm))
      refine hK.out _ _ hn ?_
      replace hb := hb.trans (hn.mono hb.size)
      clear hK K
      clear hn
      refine wpF_do rfl ?_
      intro w1 hg K hK
      replace hb := hb.trans (hg.mono hb.size)
      try replace HB2 := Lib.hid (HB2.out.of hg); try replace HB3 := Lib.hid (HB3.out.of hg)
      clear hg
      go_wp2_with ((go_at_call 65; (with_reducible refine (bigMul_v (.agg #[.bool bn2, .slice ba2 bl2 bc2]) (.agg #[.bool nZ, .slice aZ lZ cZ]) 2199023255552 Z r5 3 18 Hr5.out _ HB2.out (HZ.out.of hb) (by decide)).mono ?_); rintro e w2 ⟨v_, rfl, hbm, hn⟩; replace HB2 := Lib.hid (HB2.out.of hn); have HB3 := Lib.hid hbm; have hvm := hbm.shape; clear hbm; obtain ⟨bn3, ba3, bl3, bc3, rfl⟩ := hvm))
      refine hK.out _ _ hn ?_
      replace hb := hb.trans (hn.mono hb.size)
      clear hK K
      clear hn
      refine wpF_nil ?_
      clear hb
      intro w1 hg hb b1 lb1 nb1
      replace HB2 := Lib.hid (HB2.out.of hg)
      replace HB3 := Lib.hid (HB3.out.of hg)
      clear hg
      simp only [Act.put, ptrTo, List.setIfInBounds_toArray, List.set_cons_succ, List.set_cons_zero]
      simp only [List.drop_succ_cons, List.drop_zero]
      clear c1_4 c1_5 l1
      first | refine calls_w ?_ | refine name_world ?_ | refine list_world ?_ | refine post_world ?_
      intro U4 hU4
      subst hU4
      have D1 := Lib.hid Kk1.out.lt
      have D2 := Lib.hid hb0.size
      have k2 : Blk U4 b1 #[.bool false, .slice none 0 0] 28 := nb1
      have k1 := Kk1.out.of hb
      clear Kk1
      have D3 := Lib.hid lb1
      clear nb1 lb1
      replace HX := Lib.hid (HX.out.of hb)
      replace HY := Lib.hid (HY.out.of hb)
      replace HZ := Lib.hid (HZ.out.of hb)
      replace hb0 := hb0.trans (hb.mono hb0.size)
      clear hb
      generalize b1 = q2 at *
      have c2_0 : U4.cell? ⟨q2, 0, none⟩ = some (.bool false) := k2.cell 0
      have c2_1 : U4.cell? ⟨q2, 1, none⟩ = some (.slice none 0 0) := k2.cell 1
      have f2_0 := k2.free 0
      have f2_1 := k2.free 1
      have l2 := k2.lt
      go_wp2_with fail
      clear c2_0 c2_1 f2_0 f2_1 l2
      first | refine calls_w ?_ | refine name_world ?_ | refine list_world ?_ | refine post_world ?_
      intro V5 hV5
      clear HB2
      have D4 := Lib.hid k1.lt
      have D5 := Lib.hid k2.lt
      have D6 := Lib.hid hb0.size
      have nk1 : Blk V5 w.heap.size #[.bool nX, .slice aX lX cX, .bool nY, .slice aY lY cY, .bool nZ, .slice aZ lZ cZ] 72 := by rw [hV5]; exact (blk_setL k1 (by have := D1.out; have := D3.out; omega) 0 [.bool bn3, .slice ba3 bl3 bc3])
      have nk2 : Blk V5 q2 #[.bool bn3, .slice ba3 bl3 bc3] 28 := by rw [hV5]; exact (blk_full _ [.bool bn3, .slice ba3 bl3 bc3] k2 rfl)
      have nhb0 : Below w.heap.size w V5 := by rw [hV5]; exact (blw_setL hb0 (by have := D2.out; have := D3.out; omega) 0 [.bool bn3, .slice ba3 bl3 bc3])
      replace HX : Hid (Big V5 (.agg #[.bool nX, .slice aX lX cX]) X 18) := Lib.hid (by rw [hV5]; exact (big_setL HX.out (Blk.cell k2 0) (fun _ h => by cases h) 0 [.bool bn3, .slice ba3 bl3 bc3]))
      replace HY : Hid (Big V5 (.agg #[.bool nY, .slice aY lY cY]) Y 18) := Lib.hid (by rw [hV5]; exact (big_setL HY.out (Blk.cell k2 0) (fun _ h => by cases h) 0 [.bool bn3, .slice ba3 bl3 bc3]))
      replace HZ : Hid (Big V5 (.agg #[.bool nZ, .slice aZ lZ cZ]) Z 18) := Lib.hid (by rw [hV5]; exact (big_setL HZ.out (Blk.cell k2 0) (fun _ h => by cases h) 0 [.bool bn3, .slice ba3 bl3 bc3]))
      replace HB3 : Hid (Big V5 (.agg #[.bool bn3, .slice ba3 bl3 bc3]) r5 21) := Lib.hid (by rw [hV5]; exact (big_setL HB3.out (Blk.cell k2 0) (fun _ h => by cases h) 0 [.bool bn3, .slice ba3 bl3 bc3]))
      clear k1 k2
      clear hb0
      clear hV5
      have k1 := nk1
      clear nk1
      have k2 := nk2
      clear nk2
      have hb0 := nhb0
      clear nhb0
      obtain ⟨r6, hr6⟩ : ∃ o_o : Int, -r5 = o_o := ⟨_, rfl⟩
      have Hr6 := Lib.hid hr6
      clear hr6
      refine (bigMinus_v (.agg #[.bool bn3, .slice ba3 bl3 bc3]) r5 r6 21 Hr6.out _ HB3.out).mono ?_
      rintro e U6 ⟨v_, rfl, hbm, hn⟩
      replace k1 := k1.of hn
      replace k2 := k2.of hn
      replace HX := Lib.hid (HX.out.of hn)
      replace HY := Lib.hid (HY.out.of hn)
      replace HZ := Lib.hid (HZ.out.of hn)
      replace HB3 := Lib.hid (HB3.out.of hn)
      replace hb0 := hb0.trans (hn.mono hb0.size)
      clear hn
      have HB4 := Lib.hid hbm
      have hvm := hbm.shape
      clear hbm
      obtain ⟨bn4, ba4, bl4, bc4, rfl⟩ := hvm
      have c1_0 : U6.cell? ⟨w.heap.size, 0, none⟩ = some (.bool nX) := k1.cell 0
      have c1_1 : U6.cell? ⟨w.heap.size, 1, none⟩ = some (.slice aX lX cX) := k1.cell 1
      have l1 := k1.lt
      go_wp2_with fail
      clear c1_0 c1_1 l1
      first | refine calls_w ?_ | refine name_world ?_ | refine list_world ?_ | refine post_world ?_
      intro V7 hV7
      have D7 := Lib.hid k1.lt
      have D8 := Lib.hid k2.lt
      have D9 := Lib.hid hb0.size
      have hn : Below U6.heap.size U6 V7 := by rw [hV7]; exact below_a1 _ _
      have nk1 := k1.of hn
      have nk2 := k2.of hn
      replace HX := Lib.hid (HX.out.of hn)
      replace HY := Lib.hid (HY.out.of hn)
      replace HZ := Lib.hid (HZ.out.of hn)
      replace HB3 := Lib.hid (HB3.out.of hn)
      replace HB4 := Lib.hid (HB4.out.of hn)
      have nhb0 := hb0.trans (hn.mono hb0.size)
      clear hn
      have k3 : Blk V7 U6.heap.size #[.bool bn4, .slice ba4 bl4 bc4] 28 := by rw [hV7]; exact (Blk.new _ _ _)
      clear k1 k2
      clear hb0
      clear hV7
      have k1 := nk1
      clear nk1
      have k2 := nk2
      clear nk2
      have hb0 := nhb0
      clear nhb0
      obtain ⟨r7, hr7⟩ : ∃ o_o : Int, cmpI X r6 = o_o := ⟨_, rfl⟩
      have Hr7 := Lib.hid hr7
      clear hr7
      refine (bigCmp_v (.agg #[.bool nX, .slice aX lX cX]) (.agg #[.bool bn4, .slice ba4 bl4 bc4]) X r6 18 21 r7 Hr7.out _ HX.out HB4.out).mono ?_
      rintro e U8 ⟨rfl, hn⟩
      replace k1 := k1.of hn
      replace k2 := k2.of hn
      replace k3 := k3.of hn
      replace HX := Lib.hid (HX.out.of hn)
      replace HY := Lib.hid (HY.out.of hn)
      replace HZ := Lib.hid (HZ.out.of hn)
      replace HB3 := Lib.hid (HB3.out.of hn)
      replace HB4 := Lib.hid (HB4.out.of hn)
      replace hb0 := hb0.trans (hn.mono hb0.size)
      clear hn
      obtain ⟨z8, hz8⟩ : ∃ o_o : Bool, decide (0 ≤ r7) = o_o := ⟨_, rfl⟩
      cases z8
      · have e0 : false = R0 := by rw [← HR0.out]; unfold rspR; (try rw [Hr1.out]); (try rw [hz2]); (try rw [Hr3.out]); (try rw [hz4]); (try rw [Hr5.out]); (try rw [Hr6.out]); (try rw [Hr7.out]); (try rw [hz8]); all_goals first | rfl | simp
        subst e0
        go_wp2
        first | go_ret | go_ret2
        exact ⟨by first | rfl | simp, hb0⟩
      · have c1_0 : U8.cell? ⟨w.heap.size, 0, none⟩ = some (.bool nX) := k1.cell 0
        have c1_1 : U8.cell? ⟨w.heap.size, 1, none⟩ = some (.slice aX lX cX) := k1.cell 1
        have l1 := k1.lt
        have c2_0 : U8.cell? ⟨q2, 0, none⟩ = some (.bool bn3) := k2.cell 0
        have c2_1 : U8.cell? ⟨q2, 1, none⟩ = some (.slice ba3 bl3 bc3) := k2.cell 1
        have l2 := k2.lt
        go_wp2_with fail
        clear c1_0 c1_1 l1 c2_0 c2_1 l2
        obtain ⟨r9, hr9⟩ : ∃ o_o : Int, cmpI X r5 = o_o := ⟨_, rfl⟩
        have Hr9 := Lib.hid hr9
        clear hr9
        refine (bigCmp_v (.agg #[.bool nX, .slice aX lX cX]) (.agg #[.bool bn3, .slice ba3 bl3 bc3]) X r5 18 21 r9 Hr9.out _ HX.out HB3.out).mono ?_
        rintro e U9 ⟨rfl, hn⟩
        replace k1 := k1.of hn
        replace k2 := k2.of hn
        replace k3 := k3.of hn
        replace HX := Lib.hid (HX.out.of hn)
        replace HY := Lib.hid (HY.out.of hn)
        replace HZ := Lib.hid (HZ.out.of hn)
        replace HB3 := Lib.hid (HB3.out.of hn)
        replace HB4 := Lib.hid (HB4.out.of hn)
        replace hb0 := hb0.trans (hn.mono hb0.size)
        clear hn
        obtain ⟨z10, hz10⟩ : ∃ o_o : Bool, decide (r9 ≤ 0) = o_o := ⟨_, rfl⟩
        cases z10
        · have e0 : false = R0 := by rw [← HR0.out]; unfold rspR; (try rw [Hr1.out]); (try rw [hz2]); (try rw [Hr3.out]); (try rw [hz4]); (try rw [Hr5.out]); (try rw [Hr6.out]); (try rw [Hr7.out]); (try rw [hz8]); (try rw [Hr9.out]); (try rw [hz10]); all_goals first | rfl | simp
          subst e0
          go_wp2
          first | go_ret | go_ret2
          exact ⟨by first | rfl | simp, hb0⟩
        · have c1_2 : U9.cell? ⟨w.heap.size, 2, none⟩ = some (.bool nY) := k1.cell 2
          have c1_3 : U9.cell? ⟨w.heap.size, 3, none⟩ = some (.slice aY lY cY) := k1.cell 3
          have l1 := k1.lt
          have c3_0 : U9.cell? ⟨U6.heap.size, 0, none⟩ = some (.bool bn4) := k3.cell 0
          have c3_1 : U9.cell? ⟨U6.heap.size, 1, none⟩ = some (.slice ba4 bl4 bc4) := k3.cell 1
          have l3 := k3.lt
          go_wp2_with fail
          clear c1_2 c1_3 l1 c3_0 c3_1 l3
          obtain ⟨r11, hr11⟩ : ∃ o_o : Int, cmpI Y r6 = o_o := ⟨_, rfl⟩
          have Hr11 := Lib.hid hr11
          clear hr11
          refine (bigCmp_v (.agg #[.bool nY, .slice aY lY cY]) (.agg #[.bool bn4, .slice ba4 bl4 bc4]) Y r6 18 21 r11 Hr11.out _ HY.out HB4.out).mono ?_
          rintro e U10 ⟨rfl, hn⟩
          clear HB4
          clear k3
          replace k1 := k1.of hn
          replace k2 := k2.of hn
          replace HX := Lib.hid (HX.out.of hn)
          replace HY := Lib.hid (HY.out.of hn)
          replace HZ := Lib.hid (HZ.out.of hn)
          replace HB3 := Lib.hid (HB3.out.of hn)
          replace hb0 := hb0.trans (hn.mono hb0.size)
          clear hn
          obtain ⟨z12, hz12⟩ : ∃ o_o : Bool, decide (0 ≤ r11) = o_o := ⟨_, rfl⟩
          cases z12
          · have e0 : false = R0 := by rw [← HR0.out]; unfold rspR; (try rw [Hr1.out]); (try rw [hz2]); (try rw [Hr3.out]); (try rw [hz4]); (try rw [Hr5.out]); (try rw [Hr6.out]); (try rw [Hr7.out]); (try rw [hz8]); (try rw [Hr9.out]); (try rw [hz10]); (try rw [Hr11.out]); (try rw [hz12]); all_goals first | rfl | simp
            subst e0
            go_wp2
            first | go_ret | go_ret2
            exact ⟨by first | rfl | simp, hb0⟩
          · have c1_2 : U10.cell? ⟨w.heap.size, 2, none⟩ = some (.bool nY) := k1.cell 2
            have c1_3 : U10.cell? ⟨w.heap.size, 3, none⟩ = some (.slice aY lY cY) := k1.cell 3
            have l1 := k1.lt
            have c2_0 : U10.cell? ⟨q2, 0, none⟩ = some (.bool bn3) := k2.cell 0
            have c2_1 : U10.cell? ⟨q2, 1, none⟩ = some (.slice ba3 bl3 bc3) := k2.cell 1
            have l2 := k2.lt
            go_wp2_with fail
            clear c1_2 c1_3 l1 c2_0 c2_1 l2
            obtain ⟨r13, hr13⟩ : ∃ o_o : Int, cmpI Y r5 = o_o := ⟨_, rfl⟩
            have Hr13 := Lib.hid hr13
            clear hr13
            refine (bigCmp_v (.agg #[.bool nY, .slice aY lY cY]) (.agg #[.bool bn3, .slice ba3 bl3 bc3]) Y r5 18 21 r13 Hr13.out _ HY.out HB3.out).mono ?_
            rintro e U11 ⟨rfl, hn⟩
            clear HX HY HZ HB3
            clear k1 k2
            replace hb0 := hb0.trans (hn.mono hb0.size)
            clear hn
            have e0 : decide (r13 ≤ 0) = R0 := by rw [← HR0.out]; unfold rspR; (try rw [Hr1.out]); (try rw [hz2]); (try rw [Hr3.out]); (try rw [hz4]); (try rw [Hr5.out]); (try rw [Hr6.out]); (try rw [Hr7.out]); (try rw [hz8]); (try rw [Hr9.out]); (try rw [hz10]); (try rw [Hr11.out]); (try rw [hz12]); (try rw [Hr13.out]); all_goals first | rfl | simp
            subst e0
            go_wp2
            first | go_ret | go_ret2
            exact ⟨by first | rfl | simp, hb0⟩
    · have e0 : false = R0 := by rw [← HR0.out]; unfold rspR; (try rw [Hr1.out]); (try rw [hz2]); (try rw [Hr3.out]); (try rw [hz4]); all_goals first | rfl | simp
      subst e0
      go_wp2
      first | go_ret | go_ret2
      exact ⟨by first | rfl | simp, hb0⟩
  · have c1_4 : V1.cell? ⟨w.heap.size, 4, none⟩ = some (.bool nZ) := k1.cell 4
    have c1_5 : V1.cell? ⟨w.heap.size, 5, none⟩ = some (.slice aZ lZ cZ) := k1.cell 5
    have l1 := k1.lt
    have Kk1 := Lib.hid k1
    clear k1
    refine wp_region_up V1.heap.size 8 [(true, 0), (true, 1), (false, 2), (true, 3), (true, 4), (true, 5), (true, 6), (false, 7)] (by kernel_rfl) (by kernel_rfl) (fun _ _ d _ _ h => by cases d <;> exact h) ?_
    have hb : Below V1.heap.size V1 V1.drew := (Below.refl _ _).drew
    iterate 2
      refine wpS_takeL rfl rfl ?_
      go_big_quiet_step (rfl)
      refine wpQuiet_nil ?_
    refine wpS_doL rfl ?_
    intro K hK
    go_wp2_with ((go_at_call 67; (with_reducible refine (bigSign_v (.agg #[.bool nZ, .slice aZ lZ cZ]) Z 18 r1 Hr1.out _ (HZ.out.of hb)).mono ?_); rintro e w2 ⟨rfl, hn⟩))
    replace hb := hb.trans (hn.mono hb.size)
    refine hK.out _ _ (up_iff.2 hb) ?_
    clear hK K
    clear hn
    iterate 4
      refine wpS_takeL rfl rfl ?_
      go_big_quiet_step (rfl)
      refine wpQuiet_nil ?_
    refine wpS_doL rfl ?_
    intro K hK
    go_wp2_with ((go_at_call 67; (with_reducible refine (bigSign_v (.agg #[.bool nZ, .slice aZ lZ cZ]) Z 18 r1 Hr1.out _ (HZ.out.of hb)).mono ?_); rintro e w2 ⟨rfl, hn⟩))
    try replace hb := hb.trans (hn.mono hb.size)
    refine hK.out _ _ (up_iff.2 hb) ?_
    clear hK K
    try clear hn
    refine wpS_nil ?_
    simp only [List.drop_succ_cons, List.drop_zero]
    first | refine calls_w ?_ | refine name_world ?_ | refine list_world ?_ | refine post_world ?_
    intro U12 hU12
    first | subst hU12 | (rw [← hU12] at hb; clear hU12)
    clear c1_4 c1_5 l1
    have k1 := Kk1.out.of hb
    clear Kk1
    replace HX := Lib.hid (HX.out.of hb)
    replace HY := Lib.hid (HY.out.of hb)
    replace HZ := Lib.hid (HZ.out.of hb)
    replace hb0 := hb0.trans (hb.mono hb0.size)
    clear hb
    have e0 : false = R0 := by rw [← HR0.out]; unfold rspR; (try rw [Hr1.out]); (try rw [hz2]); all_goals first | rfl | simp
    subst e0
    go_wp2
    first | go_ret | go_ret2
    exact ⟨by first | rfl | simp, hb0⟩

def rspC (X : Int) (Y : Int) (Z : Int) (X2 : Int) (Y2 : Int) (Z2 : Int) : Int := (bif ((cmpI (X * Z2) (X2 * Z)) == 0) then (cmpI (Y * Z2) (Y2 * Z)) else (cmpI (X * Z2) (X2 * Z)))

set_option maxRecDepth 100000 in
set_option maxHeartbeats 4000000 in

theorem rSpC_is (X : Int) (Y : Int) (Z : Int) (X2 : Int) (Y2 : Int) (Z2 : Int)  (R0 : Int) (hR0 : rspC X Y Z X2 Y2 Z2 = R0)  (nX : Bool) (aX : Option Addr) (lX cX : Nat) (nY : Bool) (aY : Option Addr) (lY cY : Nat) (nZ : Bool) (aZ : Option Addr) (lZ cZ : Nat) (nX2 : Bool) (aX2 : Option Addr) (lX2 cX2 : Nat) (nY2 : Bool) (aY2 : Option Addr) (lY2 cY2 : Nat) (nZ2 : Bool) (aZ2 : Option Addr) (lZ2 cZ2 : Nat) (w : World) (hX : Big w (.agg #[.bool nX, .slice aX lX cX]) X 18) (hY : Big w (.agg #[.bool nY, .slice aY lY cY]) Y 18) (hZ : Big w (.agg #[.bool nZ, .slice aZ lZ cZ]) Z 18) (hX2 : Big w (.agg #[.bool nX2, .slice aX2 lX2 cX2]) X2 18) (hY2 : Big w (.agg #[.bool nY2, .slice aY2 lY2 cY2]) Y2 18) (hZ2 : Big w (.agg #[.bool nZ2, .slice aZ2 lZ2 cZ2]) Z2 18) :
    Calls Try.prog 56 #[.agg #[.bool nX, .slice aX lX cX, .bool nY, .slice aY lY cY, .bool nZ, .slice aZ lZ cZ], .agg #[.bool nX2, .slice aX2 lX2 cX2, .bool nY2, .slice aY2 lY2 cY2, .bool nZ2, .slice aZ2 lZ2 cZ2]] w fun e w' => e = .returned (.int .i64 R0) ∧ Below w.heap.size w w' := by

  have HX := Lib.hid hX
  clear hX
  have HY := Lib.hid hY
  clear hY
  have HZ := Lib.hid hZ
  clear hZ
  have HX2 := Lib.hid hX2
  clear hX2
  have HY2 := Lib.hid hY2
  clear hY2
  have HZ2 := Lib.hid hZ2
  clear hZ2
  have HR0 := Lib.hid hR0
  clear hR0
  go_enter Try.func56, Try.ntmps56
  go_wp2_with fail
  first | refine calls_w ?_ | refine name_world ?_ | refine list_world ?_ | refine post_world ?_
  intro V1 hV1
  have hn : Below w.heap.size w V1 := by rw [hV1]; exact below_a2 _ _ _
  replace HX := Lib.hid (HX.out.of hn)
  replace HY := Lib.hid (HY.out.of hn)
  replace HZ := Lib.hid (HZ.out.of hn)
  replace HX2 := Lib.hid (HX2.out.of hn)
  replace HY2 := Lib.hid (HY2.out.of hn)
  replace HZ2 := Lib.hid (HZ2.out.of hn)
  have nhb0 := hn
  have k1 : Blk V1 w.heap.size #[.bool nX, .slice aX lX cX, .bool nY, .slice aY lY cY, .bool nZ, .slice aZ lZ cZ] 72 := by rw [hV1]; exact ((Blk.new _ _ _).alloc _)
  have k2 : Blk V1 (w.heap.size + 1) #[.bool nX2, .slice aX2 lX2 cX2, .bool nY2, .slice aY2 lY2 cY2, .bool nZ2, .slice aZ2 lZ2 cZ2] 72 := by rw [hV1]; exact (Blk.new1 _ _ _ _)
  clear hV1
  have hb0 := nhb0
  clear nhb0
  obtain ⟨r1, hr1⟩ : ∃ o_o : Int, X * Z2 = o_o := ⟨_, rfl⟩
  have Hr1 := Lib.hid hr1
  clear hr1
  have c1_0 : V1.cell? ⟨w.heap.size, 0, none⟩ = some (.bool nX) := k1.cell 0
  have c1_1 : V1.cell? ⟨w.heap.size, 1, none⟩ = some (.slice aX lX cX) := k1.cell 1
  have c1_4 : V1.cell? ⟨w.heap.size, 4, none⟩ = some (.bool nZ) := k1.cell 4
  have c1_5 : V1.cell? ⟨w.heap.size, 5, none⟩ = some (.slice aZ lZ cZ) := k1.cell 5
  have l1 := k1.lt
  have c2_0 : V1.cell? ⟨(w.heap.size + 1), 0, none⟩ = some (.bool nX2) := k2.cell 0
  have c2_1 : V1.cell? ⟨(w.heap.size + 1), 1, none⟩ = some (.slice aX2 lX2 cX2) := k2.cell 1
  have c2_4 : V1.cell? ⟨(w.heap.size + 1), 4, none⟩ = some (.bool nZ2) := k2.cell 4
  have c2_5 : V1.cell? ⟨(w.heap.size + 1), 5, none⟩ = some (.slice aZ2 lZ2 cZ2) := k2.cell 5
  have l2 := k2.lt
  have Kk1 := Lib.hid k1
  clear k1
  have Kk2 := Lib.hid k2
  clear k2
  refine wp_region_up V1.heap.size 9 [(true, 0), (true, 1), (true, 2), (true, 3), (true, 5), (true, 6), (true, 7), (true, 8), (false, 4)] (by kernel_rfl) (by kernel_rfl) (fun _ _ d _ _ h => by cases d <;> exact h) ?_
  have hb : Below V1.heap.size V1 V1.drew := (Below.refl _ _).drew
  iterate 8
    refine wpS_takeL rfl rfl ?_
    go_big_quiet_step (rfl)
    refine wpQuiet_nil ?_
  refine wpS_doL rfl ?_
  intro K hK
  go_wp2_with ((go_at_call 65; (with_reducible refine (bigMul_v (.agg #[.bool nX, .slice aX lX cX]) (.agg #[.bool nZ2, .slice aZ2 lZ2 cZ2]) X Z2 r1 18 18 Hr1.out _ (HX.out.of hb) (HZ2.out.of hb) (by decide)).mono ?_); rintro e w2 ⟨v_, rfl, hbm, hn⟩; have HB1 := Lib.hid hbm; have hvm := hbm.shape; clear hbm; obtain ⟨bn1, ba1, bl1, bc1, rfl⟩ := hvm))
  replace hb := hb.trans (hn.mono hb.size)
  refine hK.out _ _ (up_iff.2 hb) ?_
  clear hK K
  clear hn
  refine wpS_nil ?_
  simp only [List.drop_succ_cons, List.drop_zero]
  first | refine calls_w ?_ | refine name_world ?_ | refine list_world ?_ | refine post_world ?_
  intro U2 hU2
  first | subst hU2 | (rw [← hU2] at hb; clear hU2)
  clear c1_0 c1_1 c1_4 c1_5 l1 c2_0 c2_1 c2_4 c2_5 l2
  have k1 := Kk1.out.of hb
  clear Kk1
  have k2 := Kk2.out.of hb
  clear Kk2
  replace HX := Lib.hid (HX.out.of hb)
  replace HY := Lib.hid (HY.out.of hb)
  replace HZ := Lib.hid (HZ.out.of hb)
  replace HX2 := Lib.hid (HX2.out.of hb)
  replace HY2 := Lib.hid (HY2.out.of hb)
  replace HZ2 := Lib.hid (HZ2.out.of hb)
  replace hb0 := hb0.trans (hb.mono hb0.size)
  clear hb
  go_wp2_with fail
  obtain ⟨r2, hr2⟩ : ∃ o_o : Int, X2 * Z = o_o := ⟨_, rfl⟩
  have Hr2 := Lib.hid hr2
  clear hr2
  refine (bigMul_v (.agg #[.bool nX2, .slice aX2 lX2 cX2]) (.agg #[.bool nZ, .slice aZ lZ cZ]) X2 Z r2 18 18 Hr2.out _ HX2.out HZ.out (by decide)).mono ?_
  rintro e U3 ⟨v_, rfl, hbm, hn⟩
  replace k1 := k1.of hn
  replace k2 := k2.of hn
  replace HX := Lib.hid (HX.out.of hn)
  replace HY := Lib.hid (HY.out.of hn)
  replace HZ := Lib.hid (HZ.out.of hn)
  replace HX2 := Lib.hid (HX2.out.of hn)
  replace HY2 := Lib.hid (HY2.out.of hn)
  replace HZ2 := Lib.hid (HZ2.out.of hn)
  replace HB1 := Lib.hid (HB1.out.of hn)
  replace hb0 := hb0.trans (hn.mono hb0.size)
  clear hn
  have HB2 := Lib.hid hbm
  have hvm := hbm.shape
  clear hbm
  obtain ⟨bn2, ba2, bl2, bc2, rfl⟩ := hvm
  go_wp2_with fail
  obtain ⟨r3, hr3⟩ : ∃ o_o : Int, cmpI r1 r2 = o_o := ⟨_, rfl⟩
  have Hr3 := Lib.hid hr3
  clear hr3
  refine (bigCmp_v (.agg #[.bool bn1, .slice ba1 bl1 bc1]) (.agg #[.bool bn2, .slice ba2 bl2 bc2]) r1 r2 36 36 r3 Hr3.out _ HB1.out HB2.out).mono ?_
  rintro e U4 ⟨rfl, hn⟩
  clear HB1 HB2
  replace k1 := k1.of hn
  replace k2 := k2.of hn
  replace HX := Lib.hid (HX.out.of hn)
  replace HY := Lib.hid (HY.out.of hn)
  replace HZ := Lib.hid (HZ.out.of hn)
  replace HX2 := Lib.hid (HX2.out.of hn)
  replace HY2 := Lib.hid (HY2.out.of hn)
  replace HZ2 := Lib.hid (HZ2.out.of hn)
  replace hb0 := hb0.trans (hn.mono hb0.size)
  clear hn
  obtain ⟨z4, hz4⟩ : ∃ o_o : Bool, (r3 == 0) = o_o := ⟨_, rfl⟩
  cases z4
  · have nz4 : ¬ r3 = 0 := by simpa using hz4
    have e0 : r3 = R0 := by rw [← HR0.out]; unfold rspC; (try rw [Hr1.out]); (try rw [Hr2.out]); (try rw [Hr3.out]); (try rw [hz4]); all_goals first | rfl | simp
    subst e0
    go_wp2
    first | go_ret | go_ret2
    exact ⟨by first | rfl | simp, hb0⟩
  · obtain rfl : r3 = 0 := by simpa using hz4
    clear hz4
    go_wp2_with fail
    obtain ⟨r5, hr5⟩ : ∃ o_o : Int, Y * Z2 = o_o := ⟨_, rfl⟩
    have Hr5 := Lib.hid hr5
    clear hr5
    have c1_2 : U4.cell? ⟨w.heap.size, 2, none⟩ = some (.bool nY) := k1.cell 2
    have c1_3 : U4.cell? ⟨w.heap.size, 3, none⟩ = some (.slice aY lY cY) := k1.cell 3
    have c1_4 : U4.cell? ⟨w.heap.size, 4, none⟩ = some (.bool nZ) := k1.cell 4
    have c1_5 : U4.cell? ⟨w.heap.size, 5, none⟩ = some (.slice aZ lZ cZ) := k1.cell 5
    have l1 := k1.lt
    have c2_2 : U4.cell? ⟨(w.heap.size + 1), 2, none⟩ = some (.bool nY2) := k2.cell 2
    have c2_3 : U4.cell? ⟨(w.heap.size + 1), 3, none⟩ = some (.slice aY2 lY2 cY2) := k2.cell 3
    have c2_4 : U4.cell? ⟨(w.heap.size + 1), 4, none⟩ = some (.bool nZ2) := k2.cell 4
    have c2_5 : U4.cell? ⟨(w.heap.size + 1), 5, none⟩ = some (.slice aZ2 lZ2 cZ2) := k2.cell 5
    have l2 := k2.lt
    have Kk1 := Lib.hid k1
    clear k1
    have Kk2 := Lib.hid k2
    clear k2
    refine wp_region_up U4.heap.size 9 [(true, 0), (true, 1), (true, 2), (true, 3), (true, 5), (true, 6), (true, 7), (true, 8), (false, 4)] (by kernel_rfl) (by kernel_rfl) (fun _ _ d _ _ h => by cases d <;> exact h) ?_
    have hb : Below U4.heap.size U4 U4.drew := (Below.refl _ _).drew
    iterate 8
      refine wpS_takeL rfl rfl ?_
      go_big_quiet_step (rfl)
      refine wpQuiet_nil ?_
    refine wpS_doL rfl ?_
    intro K hK
    go_wp2_with ((go_at_call 65; (with_reducible refine (bigMul_v (.agg #[.bool nY, .slice aY lY cY]) (.agg #[.bool nZ2, .slice aZ2 lZ2 cZ2]) Y Z2 r5 18 18 Hr5.out _ (HY.out.of hb) (HZ2.out.of hb) (by decide)).mono ?_); rintro e w2 ⟨v_, rfl, hbm, hn⟩; have HB3 := Lib.hid hbm; have hvm := hbm.shape; clear hbm; obtain ⟨bn3, ba3, bl3, bc3, rfl⟩ := hvm))
    replace hb := hb.trans (hn.mono hb.size)
    refine hK.out _ _ (up_iff.2 hb) ?_
    clear hK K
    clear hn
    refine wpS_nil ?_
    simp only [List.drop_succ_cons, List.drop_zero]
    first | refine calls_w ?_ | refine name_world ?_ | refine list_world ?_ | refine post_world ?_
    intro U5 hU5
    first | subst hU5 | (rw [← hU5] at hb; clear hU5)
    clear c1_2 c1_3 c1_4 c1_5 l1 c2_2 c2_3 c2_4 c2_5 l2
    have k1 := Kk1.out.of hb
    clear Kk1
    have k2 := Kk2.out.of hb
    clear Kk2
    replace HX := Lib.hid (HX.out.of hb)
    replace HY := Lib.hid (HY.out.of hb)
    replace HZ := Lib.hid (HZ.out.of hb)
    replace HX2 := Lib.hid (HX2.out.of hb)
    replace HY2 := Lib.hid (HY2.out.of hb)
    replace HZ2 := Lib.hid (HZ2.out.of hb)
    replace hb0 := hb0.trans (hb.mono hb0.size)
    clear hb
    go_wp2_with fail
    obtain ⟨r6, hr6⟩ : ∃ o_o : Int, Y2 * Z = o_o := ⟨_, rfl⟩
    have Hr6 := Lib.hid hr6
    clear hr6
    refine (bigMul_v (.agg #[.bool nY2, .slice aY2 lY2 cY2]) (.agg #[.bool nZ, .slice aZ lZ cZ]) Y2 Z r6 18 18 Hr6.out _ HY2.out HZ.out (by decide)).mono ?_
    rintro e U6 ⟨v_, rfl, hbm, hn⟩
    clear HX HY HZ HX2 HY2 HZ2
    clear k1 k2
    replace HB3 := Lib.hid (HB3.out.of hn)
    replace hb0 := hb0.trans (hn.mono hb0.size)
    clear hn
    have HB4 := Lib.hid hbm
    have hvm := hbm.shape
    clear hbm
    obtain ⟨bn4, ba4, bl4, bc4, rfl⟩ := hvm
    go_wp2_with fail
    obtain ⟨r7, hr7⟩ : ∃ o_o : Int, cmpI r5 r6 = o_o := ⟨_, rfl⟩
    have Hr7 := Lib.hid hr7
    clear hr7
    refine (bigCmp_v (.agg #[.bool bn3, .slice ba3 bl3 bc3]) (.agg #[.bool bn4, .slice ba4 bl4 bc4]) r5 r6 36 36 r7 Hr7.out _ HB3.out HB4.out).mono ?_
    rintro e U7 ⟨rfl, hn⟩
    clear HB3 HB4
    replace hb0 := hb0.trans (hn.mono hb0.size)
    clear hn
    have e0 : r7 = R0 := by rw [← HR0.out]; unfold rspC; (try rw [Hr1.out]); (try rw [Hr2.out]); (try rw [Hr3.out]); (try rw [Hr5.out]); (try rw [Hr6.out]); (try rw [Hr7.out]); all_goals first | rfl | simp
    subst e0
    go_wp2
    first | go_ret | go_ret2
    exact ⟨by first | rfl | simp, hb0⟩

def rsde (ax : Int) (ay : Int) (bx : Int) (b_y : Int) (X : Int) (Y : Int) (Z : Int) : Int := (((((wrap64 (bx - ax))) * (Y - (ay * Z))) - (((wrap64 (b_y - ay))) * (X - (ax * Z)))).sign)

set_option maxRecDepth 100000 in
set_option maxHeartbeats 4000000 in

theorem rSide_is (ax : Int) (ay : Int) (bx : Int) (b_y : Int) (X : Int) (Y : Int) (Z : Int)  (R0 : Int) (hR0 : rsde ax ay bx b_y X Y Z = R0) (_iax : In64 ax) (_iay : In64 ay) (_ibx : In64 bx) (_ib_y : In64 b_y) (nX : Bool) (aX : Option Addr) (lX cX : Nat) (nY : Bool) (aY : Option Addr) (lY cY : Nat) (nZ : Bool) (aZ : Option Addr) (lZ cZ : Nat) (w : World) (hX : Big w (.agg #[.bool nX, .slice aX lX cX]) X 18) (hY : Big w (.agg #[.bool nY, .slice aY lY cY]) Y 18) (hZ : Big w (.agg #[.bool nZ, .slice aZ lZ cZ]) Z 18) :
    Calls Try.prog 72 #[.agg #[.int .i64 ax, .int .i64 ay], .agg #[.int .i64 bx, .int .i64 b_y], .agg #[.bool nX, .slice aX lX cX, .bool nY, .slice aY lY cY, .bool nZ, .slice aZ lZ cZ]] w fun e w' => e = .returned (.int .i64 R0) ∧ Below w.heap.size w w' := by

  have HX := Lib.hid hX
  clear hX
  have HY := Lib.hid hY
  clear hY
  have HZ := Lib.hid hZ
  clear hZ
  have HR0 := Lib.hid hR0
  clear hR0
  go_enter Try.func72, Try.ntmps72
  go_wp2_with fail
  first | refine calls_w ?_ | refine name_world ?_ | refine list_world ?_ | refine post_world ?_
  intro V1 hV1
  have hn : Below w.heap.size w V1 := by rw [hV1]; exact below_a3 _ _ _ _
  replace HX := Lib.hid (HX.out.of hn)
  replace HY := Lib.hid (HY.out.of hn)
  replace HZ := Lib.hid (HZ.out.of hn)
  have nhb0 := hn
  have k1 : Blk V1 w.heap.size #[.int .i64 ax, .int .i64 ay] 31 := by rw [hV1]; exact (((Blk.new _ _ _).alloc _).alloc _)
  have k2 : Blk V1 (w.heap.size + 1) #[.int .i64 bx, .int .i64 b_y] 31 := by rw [hV1]; exact ((Blk.new1 _ _ _ _).alloc _)
  have k3 : Blk V1 (w.heap.size + 1 + 1) #[.bool nX, .slice aX lX cX, .bool nY, .slice aY lY cY, .bool nZ, .slice aZ lZ cZ] 72 := by rw [hV1]; exact (Blk.new2 _ _ _ _ _)
  clear hV1
  have hb0 := nhb0
  clear nhb0
  obtain ⟨r1, hr1⟩ : ∃ o_o : Int, (wrap64 (bx - ax)) = o_o := ⟨_, rfl⟩
  have Hr1 := Lib.hid hr1
  clear hr1
  obtain ⟨r2, hr2⟩ : ∃ o_o : Int, ay * Z = o_o := ⟨_, rfl⟩
  have Hr2 := Lib.hid hr2
  clear hr2
  obtain ⟨r3, hr3⟩ : ∃ o_o : Int, Y - r2 = o_o := ⟨_, rfl⟩
  have Hr3 := Lib.hid hr3
  clear hr3
  obtain ⟨r4, hr4⟩ : ∃ o_o : Int, r1 * r3 = o_o := ⟨_, rfl⟩
  have Hr4 := Lib.hid hr4
  clear hr4
  have c1_0 : V1.cell? ⟨w.heap.size, 0, none⟩ = some (.int .i64 ax) := k1.cell 0
  have c1_1 : V1.cell? ⟨w.heap.size, 1, none⟩ = some (.int .i64 ay) := k1.cell 1
  have l1 := k1.lt
  have c2_0 : V1.cell? ⟨(w.heap.size + 1), 0, none⟩ = some (.int .i64 bx) := k2.cell 0
  have l2 := k2.lt
  have c3_2 : V1.cell? ⟨(w.heap.size + 1 + 1), 2, none⟩ = some (.bool nY) := k3.cell 2
  have c3_3 : V1.cell? ⟨(w.heap.size + 1 + 1), 3, none⟩ = some (.slice aY lY cY) := k3.cell 3
  have c3_4 : V1.cell? ⟨(w.heap.size + 1 + 1), 4, none⟩ = some (.bool nZ) := k3.cell 4
  have c3_5 : V1.cell? ⟨(w.heap.size + 1 + 1), 5, none⟩ = some (.slice aZ lZ cZ) := k3.cell 5
  have l3 := k3.lt
  have Kk1 := Lib.hid k1
  clear k1
  have Kk2 := Lib.hid k2
  clear k2
  have Kk3 := Lib.hid k3
  clear k3
  refine wp_region_float1 17 16 [(true, 0), (true, 1), (true, 2), (true, 3), (true, 4), (true, 6), (true, 7), (true, 8), (true, 9), (true, 11), (true, 12), (false, 5), (false, 10), (false, 13), (false, 14), (false, 15)] (by kernel_rfl) (by kernel_rfl) (fun _ _ d _ _ => by cases d <;> exact Iff.rfl) rfl rfl rfl alCr9_0 ?_
  have hb : Below V1.heap.size V1 V1.drew := (Below.refl _ _).drew
  iterate 11
    refine wpF_take rfl rfl ?_
    go_big_quiet_step (rfl)
    refine wpQuiet_nil ?_
  refine wpF_do rfl ?_
  intro w1 hg K hK
  replace hb := hb.trans (hg.mono hb.size)
  try replace HB1 := Lib.hid (HB1.out.of hg); try replace HB2 := Lib.hid (HB2.out.of hg); try replace HB3 := Lib.hid (HB3.out.of hg); try replace HB4 := Lib.hid (HB4.out.of hg); try replace HB5 := Lib.hid (HB5.out.of hg)
  clear hg
  go_wp2_with ((first | (go_at_call 66; (with_reducible refine (bigOf_v (wrap64 (bx - ax)) r1 Hr1.out (wrap64_in _) _).mono ?_); rintro e w2 ⟨v_, rfl, hbm, hn⟩; have HB1 := Lib.hid hbm; have hvm := hbm.shape; clear hbm; obtain ⟨bn1, ba1, bl1, bc1, rfl⟩ := hvm) | (go_at_call 66; (with_reducible refine (bigOf_v ay ay rfl _iay _).mono ?_); rintro e w2 ⟨v_, rfl, hbm, hn⟩; replace HB1 := Lib.hid (HB1.out.of hn); have HB2 := Lib.hid hbm; have hvm := hbm.shape; clear hbm; obtain ⟨bn2, ba2, bl2, bc2, rfl⟩ := hvm)))
  refine hK.out _ _ hn ?_
  replace hb := hb.trans (hn.mono hb.size)
  clear hK K
  clear hn
  refine wpF_do rfl ?_
  intro w1 hg K hK
  replace hb := hb.trans (hg.mono hb.size)
  try replace HB1 := Lib.hid (HB1.out.of hg); try replace HB2 := Lib.hid (HB2.out.of hg); try replace HB3 := Lib.hid (HB3.out.of hg); try replace HB4 := Lib.hid (HB4.out.of hg); try replace HB5 := Lib.hid (HB5.out.of hg)
  clear hg
  go_wp2_with ((first | (go_at_call 66; (with_reducible refine (bigOf_v (wrap64 (bx - ax)) r1 Hr1.out (wrap64_in _) _).mono ?_); rintro e w2 ⟨v_, rfl, hbm, hn⟩; have HB1 := Lib.hid hbm; have hvm := hbm.shape; clear hbm; obtain ⟨bn1, ba1, bl1, bc1, rfl⟩ := hvm) | (go_at_call 66; (with_reducible refine (bigOf_v ay ay rfl _iay _).mono ?_); rintro e w2 ⟨v_, rfl, hbm, hn⟩; replace HB1 := Lib.hid (HB1.out.of hn); have HB2 := Lib.hid hbm; have hvm := hbm.shape; clear hbm; obtain ⟨bn2, ba2, bl2, bc2, rfl⟩ := hvm)))
  refine hK.out _ _ hn ?_
  replace hb := hb.trans (hn.mono hb.size)
  clear hK K
  clear hn
  refine wpF_do rfl ?_
  intro w1 hg K hK
  replace hb := hb.trans (hg.mono hb.size)
  try replace HB1 := Lib.hid (HB1.out.of hg); try replace HB2 := Lib.hid (HB2.out.of hg); try replace HB3 := Lib.hid (HB3.out.of hg); try replace HB4 := Lib.hid (HB4.out.of hg); try replace HB5 := Lib.hid (HB5.out.of hg)
  clear hg
  go_wp2_with ((first | (go_at_call 65; (with_reducible refine (bigMul_v (.agg #[.bool bn2, .slice ba2 bl2 bc2]) (.agg #[.bool nZ, .slice aZ lZ cZ]) ay Z r2 5 18 Hr2.out _ HB2.out (HZ.out.of hb) (by decide)).mono ?_); rintro e w2 ⟨v_, rfl, hbm, hn⟩; replace HB1 := Lib.hid (HB1.out.of hn); replace HB2 := Lib.hid (HB2.out.of hn); have HB3 := Lib.hid hbm; have hvm := hbm.shape; clear hbm; obtain ⟨bn3, ba3, bl3, bc3, rfl⟩ := hvm) | (go_at_call 65; (with_reducible refine (bigMul_v (.agg #[.bool bn1, .slice ba1 bl1 bc1]) (.agg #[.bool bn4, .slice ba4 bl4 bc4]) r1 r3 r4 5 24 Hr4.out _ HB1.out HB4.out (by decide)).mono ?_); rintro e w2 ⟨v_, rfl, hbm, hn⟩; replace HB1 := Lib.hid (HB1.out.of hn); replace HB2 := Lib.hid (HB2.out.of hn); replace HB3 := Lib.hid (HB3.out.of hn); replace HB4 := Lib.hid (HB4.out.of hn); have HB5 := Lib.hid hbm; have hvm := hbm.shape; clear hbm; obtain ⟨bn5, ba5, bl5, bc5, rfl⟩ := hvm)))
  refine hK.out _ _ hn ?_
  replace hb := hb.trans (hn.mono hb.size)
  clear hK K
  clear hn
  refine wpF_do rfl ?_
  intro w1 hg K hK
  replace hb := hb.trans (hg.mono hb.size)
  try replace HB1 := Lib.hid (HB1.out.of hg); try replace HB2 := Lib.hid (HB2.out.of hg); try replace HB3 := Lib.hid (HB3.out.of hg); try replace HB4 := Lib.hid (HB4.out.of hg); try replace HB5 := Lib.hid (HB5.out.of hg)
  clear hg
  go_wp2_with ((go_at_call 68; (with_reducible refine (bigSub_v (.agg #[.bool nY, .slice aY lY cY]) (.agg #[.bool bn3, .slice ba3 bl3 bc3]) Y r2 r3 23 Hr3.out _ ((HY.out.of hb).mono (by decide)) HB3.out (by decide)).mono ?_); rintro e w2 ⟨v_, rfl, hbm, hn⟩; replace HB1 := Lib.hid (HB1.out.of hn); replace HB2 := Lib.hid (HB2.out.of hn); replace HB3 := Lib.hid (HB3.out.of hn); have HB4 := Lib.hid hbm; have hvm := hbm.shape; clear hbm; obtain ⟨bn4, ba4, bl4, bc4, rfl⟩ := hvm))
  refine hK.out _ _ hn ?_
  replace hb := hb.trans (hn.mono hb.size)
  clear hK K
  clear hn
  refine wpF_do rfl ?_
  intro w1 hg K hK
  replace hb := hb.trans (hg.mono hb.size)
  try replace HB1 := Lib.hid (HB1.out.of hg); try replace HB2 := Lib.hid (HB2.out.of hg); try replace HB3 := Lib.hid (HB3.out.of hg); try replace HB4 := Lib.hid (HB4.out.of hg); try replace HB5 := Lib.hid (HB5.out.of hg)
  clear hg
  go_wp2_with ((first | (go_at_call 65; (with_reducible refine (bigMul_v (.agg #[.bool bn2, .slice ba2 bl2 bc2]) (.agg #[.bool nZ, .slice aZ lZ cZ]) ay Z r2 5 18 Hr2.out _ HB2.out (HZ.out.of hb) (by decide)).mono ?_); rintro e w2 ⟨v_, rfl, hbm, hn⟩; replace HB1 := Lib.hid (HB1.out.of hn); replace HB2 := Lib.hid (HB2.out.of hn); have HB3 := Lib.hid hbm; have hvm := hbm.shape; clear hbm; obtain ⟨bn3, ba3, bl3, bc3, rfl⟩ := hvm) | (go_at_call 65; (with_reducible refine (bigMul_v (.agg #[.bool bn1, .slice ba1 bl1 bc1]) (.agg #[.bool bn4, .slice ba4 bl4 bc4]) r1 r3 r4 5 24 Hr4.out _ HB1.out HB4.out (by decide)).mono ?_); rintro e w2 ⟨v_, rfl, hbm, hn⟩; replace HB1 := Lib.hid (HB1.out.of hn); replace HB2 := Lib.hid (HB2.out.of hn); replace HB3 := Lib.hid (HB3.out.of hn); replace HB4 := Lib.hid (HB4.out.of hn); have HB5 := Lib.hid hbm; have hvm := hbm.shape; clear hbm; obtain ⟨bn5, ba5, bl5, bc5, rfl⟩ := hvm)))
  refine hK.out _ _ hn ?_
  replace hb := hb.trans (hn.mono hb.size)
  clear hK K
  clear hn
  refine wpF_nil ?_
  clear hb
  intro w1 hg hb b1 lb1 nb1
  replace HB1 := Lib.hid (HB1.out.of hg)
  replace HB2 := Lib.hid (HB2.out.of hg)
  replace HB3 := Lib.hid (HB3.out.of hg)
  replace HB4 := Lib.hid (HB4.out.of hg)
  replace HB5 := Lib.hid (HB5.out.of hg)
  clear hg
  simp only [Act.put, ptrTo, List.setIfInBounds_toArray, List.set_cons_succ, List.set_cons_zero]
  simp only [List.drop_succ_cons, List.drop_zero]
  clear c1_0 c1_1 l1 c2_0 l2 c3_2 c3_3 c3_4 c3_5 l3
  first | refine calls_w ?_ | refine name_world ?_ | refine list_world ?_ | refine post_world ?_
  intro U2 hU2
  subst hU2
  have D1 := Lib.hid Kk1.out.lt
  have D2 := Lib.hid Kk2.out.lt
  have D3 := Lib.hid Kk3.out.lt
  have D4 := Lib.hid hb0.size
  have k4 : Blk U2 b1 #[.bool false, .slice none 0 0] 28 := nb1
  have k1 := Kk1.out.of hb
  clear Kk1
  have k2 := Kk2.out.of hb
  clear Kk2
  have k3 := Kk3.out.of hb
  clear Kk3
  have D5 := Lib.hid lb1
  clear nb1 lb1
  replace HX := Lib.hid (HX.out.of hb)
  replace HY := Lib.hid (HY.out.of hb)
  replace HZ := Lib.hid (HZ.out.of hb)
  replace hb0 := hb0.trans (hb.mono hb0.size)
  clear hb
  generalize b1 = q4 at *
  have c4_0 : U2.cell? ⟨q4, 0, none⟩ = some (.bool false) := k4.cell 0
  have c4_1 : U2.cell? ⟨q4, 1, none⟩ = some (.slice none 0 0) := k4.cell 1
  have f4_0 := k4.free 0
  have f4_1 := k4.free 1
  have l4 := k4.lt
  go_wp2_with fail
  clear c4_0 c4_1 f4_0 f4_1 l4
  first | refine calls_w ?_ | refine name_world ?_ | refine list_world ?_ | refine post_world ?_
  intro V3 hV3
  clear HB1 HB2 HB3 HB4
  have D6 := Lib.hid k1.lt
  have D7 := Lib.hid k2.lt
  have D8 := Lib.hid k3.lt
  have D9 := Lib.hid k4.lt
  have D10 := Lib.hid hb0.size
  have nk1 : Blk V3 w.heap.size #[.int .i64 ax, .int .i64 ay] 31 := by rw [hV3]; exact (blk_setL k1 (by have := D1.out; have := D5.out; omega) 0 [.bool bn5, .slice ba5 bl5 bc5])
  have nk2 : Blk V3 (w.heap.size + 1) #[.int .i64 bx, .int .i64 b_y] 31 := by rw [hV3]; exact (blk_setL k2 (by have := D2.out; have := D5.out; omega) 0 [.bool bn5, .slice ba5 bl5 bc5])
  have nk3 : Blk V3 (w.heap.size + 1 + 1) #[.bool nX, .slice aX lX cX, .bool nY, .slice aY lY cY, .bool nZ, .slice aZ lZ cZ] 72 := by rw [hV3]; exact (blk_setL k3 (by have := D3.out; have := D5.out; omega) 0 [.bool bn5, .slice ba5 bl5 bc5])
  have nk4 : Blk V3 q4 #[.bool bn5, .slice ba5 bl5 bc5] 28 := by rw [hV3]; exact (blk_full _ [.bool bn5, .slice ba5 bl5 bc5] k4 rfl)
  have nhb0 : Below w.heap.size w V3 := by rw [hV3]; exact (blw_setL hb0 (by have := D4.out; have := D5.out; omega) 0 [.bool bn5, .slice ba5 bl5 bc5])
  replace HX : Hid (Big V3 (.agg #[.bool nX, .slice aX lX cX]) X 18) := Lib.hid (by rw [hV3]; exact (big_setL HX.out (Blk.cell k4 0) (fun _ h => by cases h) 0 [.bool bn5, .slice ba5 bl5 bc5]))
  replace HY : Hid (Big V3 (.agg #[.bool nY, .slice aY lY cY]) Y 18) := Lib.hid (by rw [hV3]; exact (big_setL HY.out (Blk.cell k4 0) (fun _ h => by cases h) 0 [.bool bn5, .slice ba5 bl5 bc5]))
  replace HZ : Hid (Big V3 (.agg #[.bool nZ, .slice aZ lZ cZ]) Z 18) := Lib.hid (by rw [hV3]; exact (big_setL HZ.out (Blk.cell k4 0) (fun _ h => by cases h) 0 [.bool bn5, .slice ba5 bl5 bc5]))
  replace HB5 : Hid (Big V3 (.agg #[.bool bn5, .slice ba5 bl5 bc5]) r4 29) := Lib.hid (by rw [hV3]; exact (big_setL HB5.out (Blk.cell k4 0) (fun _ h => by cases h) 0 [.bool bn5, .slice ba5 bl5 bc5]))
  clear k1 k2 k3 k4
  clear hb0
  clear hV3
  have k1 := nk1
  clear nk1
  have k2 := nk2
  clear nk2
  have k3 := nk3
  clear nk3
  have k4 := nk4
  clear nk4
  have hb0 := nhb0
  clear nhb0
  obtain ⟨r5, hr5⟩ : ∃ o_o : Int, (wrap64 (b_y - ay)) = o_o := ⟨_, rfl⟩
  have Hr5 := Lib.hid hr5
  clear hr5
  obtain ⟨r6, hr6⟩ : ∃ o_o : Int, ax * Z = o_o := ⟨_, rfl⟩
  have Hr6 := Lib.hid hr6
  clear hr6
  obtain ⟨r7, hr7⟩ : ∃ o_o : Int, X - r6 = o_o := ⟨_, rfl⟩
  have Hr7 := Lib.hid hr7
  clear hr7
  obtain ⟨r8, hr8⟩ : ∃ o_o : Int, r5 * r7 = o_o := ⟨_, rfl⟩
  have Hr8 := Lib.hid hr8
  clear hr8
  have c1_0 : V3.cell? ⟨w.heap.size, 0, none⟩ = some (.int .i64 ax) := k1.cell 0
  have c1_1 : V3.cell? ⟨w.heap.size, 1, none⟩ = some (.int .i64 ay) := k1.cell 1
  have l1 := k1.lt
  have c2_1 : V3.cell? ⟨(w.heap.size + 1), 1, none⟩ = some (.int .i64 b_y) := k2.cell 1
  have l2 := k2.lt
  have c3_0 : V3.cell? ⟨(w.heap.size + 1 + 1), 0, none⟩ = some (.bool nX) := k3.cell 0
  have c3_1 : V3.cell? ⟨(w.heap.size + 1 + 1), 1, none⟩ = some (.slice aX lX cX) := k3.cell 1
  have c3_4 : V3.cell? ⟨(w.heap.size + 1 + 1), 4, none⟩ = some (.bool nZ) := k3.cell 4
  have c3_5 : V3.cell? ⟨(w.heap.size + 1 + 1), 5, none⟩ = some (.slice aZ lZ cZ) := k3.cell 5
  have l3 := k3.lt
  have Kk1 := Lib.hid k1
  clear k1
  have Kk2 := Lib.hid k2
  clear k2
  have Kk3 := Lib.hid k3
  clear k3
  have Kk4 := Lib.hid k4
  clear k4
  refine wp_region_float1 17 16 [(true, 0), (true, 1), (true, 2), (true, 3), (true, 4), (true, 6), (true, 7), (true, 8), (true, 9), (true, 11), (true, 12), (false, 5), (false, 10), (false, 13), (false, 14), (false, 15)] (by kernel_rfl) (by kernel_rfl) (fun _ _ d _ _ => by cases d <;> exact Iff.rfl) rfl rfl rfl alCr9_0 ?_
  have hb : Below V3.heap.size V3 V3.drew := (Below.refl _ _).drew
  iterate 11
    refine wpF_take rfl rfl ?_
    go_big_quiet_step (rfl)
    refine wpQuiet_nil ?_
  refine wpF_do rfl ?_
  intro w1 hg K hK
  replace hb := hb.trans (hg.mono hb.size)
  try replace HB6 := Lib.hid (HB6.out.of hg); try replace HB7 := Lib.hid (HB7.out.of hg); try replace HB8 := Lib.hid (HB8.out.of hg); try replace HB9 := Lib.hid (HB9.out.of hg); try replace HB10 := Lib.hid (HB10.out.of hg)
  clear hg
  go_wp2_with ((first | (go_at_call 66; (with_reducible refine (bigOf_v (wrap64 (b_y - ay)) r5 Hr5.out (wrap64_in _) _).mono ?_); rintro e w2 ⟨v_, rfl, hbm, hn⟩; have HB6 := Lib.hid hbm; have hvm := hbm.shape; clear hbm; obtain ⟨bn6, ba6, bl6, bc6, rfl⟩ := hvm) | (go_at_call 66; (with_reducible refine (bigOf_v ax ax rfl _iax _).mono ?_); rintro e w2 ⟨v_, rfl, hbm, hn⟩; replace HB6 := Lib.hid (HB6.out.of hn); have HB7 := Lib.hid hbm; have hvm := hbm.shape; clear hbm; obtain ⟨bn7, ba7, bl7, bc7, rfl⟩ := hvm)))
  refine hK.out _ _ hn ?_
  replace hb := hb.trans (hn.mono hb.size)
  clear hK K
  clear hn
  refine wpF_do rfl ?_
  intro w1 hg K hK
  replace hb := hb.trans (hg.mono hb.size)
  try replace HB6 := Lib.hid (HB6.out.of hg); try replace HB7 := Lib.hid (HB7.out.of hg); try replace HB8 := Lib.hid (HB8.out.of hg); try replace HB9 := Lib.hid (HB9.out.of hg); try replace HB10 := Lib.hid (HB10.out.of hg)
  clear hg
  go_wp2_with ((first | (go_at_call 66; (with_reducible refine (bigOf_v (wrap64 (b_y - ay)) r5 Hr5.out (wrap64_in _) _).mono ?_); rintro e w2 ⟨v_, rfl, hbm, hn⟩; have HB6 := Lib.hid hbm; have hvm := hbm.shape; clear hbm; obtain ⟨bn6, ba6, bl6, bc6, rfl⟩ := hvm) | (go_at_call 66; (with_reducible refine (bigOf_v ax ax rfl _iax _).mono ?_); rintro e w2 ⟨v_, rfl, hbm, hn⟩; replace HB6 := Lib.hid (HB6.out.of hn); have HB7 := Lib.hid hbm; have hvm := hbm.shape; clear hbm; obtain ⟨bn7, ba7, bl7, bc7, rfl⟩ := hvm)))
  refine hK.out _ _ hn ?_
  replace hb := hb.trans (hn.mono hb.size)
  clear hK K
  clear hn
  refine wpF_do rfl ?_
  intro w1 hg K hK
  replace hb := hb.trans (hg.mono hb.size)
  try replace HB6 := Lib.hid (HB6.out.of hg); try replace HB7 := Lib.hid (HB7.out.of hg); try replace HB8 := Lib.hid (HB8.out.of hg); try replace HB9 := Lib.hid (HB9.out.of hg); try replace HB10 := Lib.hid (HB10.out.of hg)
  clear hg
  go_wp2_with ((first | (go_at_call 65; (with_reducible refine (bigMul_v (.agg #[.bool bn7, .slice ba7 bl7 bc7]) (.agg #[.bool nZ, .slice aZ lZ cZ]) ax Z r6 5 18 Hr6.out _ HB7.out (HZ.out.of hb) (by decide)).mono ?_); rintro e w2 ⟨v_, rfl, hbm, hn⟩; replace HB6 := Lib.hid (HB6.out.of hn); replace HB7 := Lib.hid (HB7.out.of hn); have HB8 := Lib.hid hbm; have hvm := hbm.shape; clear hbm; obtain ⟨bn8, ba8, bl8, bc8, rfl⟩ := hvm) | (go_at_call 65; (with_reducible refine (bigMul_v (.agg #[.bool bn6, .slice ba6 bl6 bc6]) (.agg #[.bool bn9, .slice ba9 bl9 bc9]) r5 r7 r8 5 24 Hr8.out _ HB6.out HB9.out (by decide)).mono ?_); rintro e w2 ⟨v_, rfl, hbm, hn⟩; replace HB6 := Lib.hid (HB6.out.of hn); replace HB7 := Lib.hid (HB7.out.of hn); replace HB8 := Lib.hid (HB8.out.of hn); replace HB9 := Lib.hid (HB9.out.of hn); have HB10 := Lib.hid hbm; have hvm := hbm.shape; clear hbm; obtain ⟨bn10, ba10, bl10, bc10, rfl⟩ := hvm)))
  refine hK.out _ _ hn ?_
  replace hb := hb.trans (hn.mono hb.size)
  clear hK K
  clear hn
  refine wpF_do rfl ?_
  intro w1 hg K hK
  replace hb := hb.trans (hg.mono hb.size)
  try replace HB6 := Lib.hid (HB6.out.of hg); try replace HB7 := Lib.hid (HB7.out.of hg); try replace HB8 := Lib.hid (HB8.out.of hg); try replace HB9 := Lib.hid (HB9.out.of hg); try replace HB10 := Lib.hid (HB10.out.of hg)
  clear hg
  go_wp2_with ((go_at_call 68; (with_reducible refine (bigSub_v (.agg #[.bool nX, .slice aX lX cX]) (.agg #[.bool bn8, .slice ba8 bl8 bc8]) X r6 r7 23 Hr7.out _ ((HX.out.of hb).mono (by decide)) HB8.out (by decide)).mono ?_); rintro e w2 ⟨v_, rfl, hbm, hn⟩; replace HB6 := Lib.hid (HB6.out.of hn); replace HB7 := Lib.hid (HB7.out.of hn); replace HB8 := Lib.hid (HB8.out.of hn); have HB9 := Lib.hid hbm; have hvm := hbm.shape; clear hbm; obtain ⟨bn9, ba9, bl9, bc9, rfl⟩ := hvm))
  refine hK.out _ _ hn ?_
  replace hb := hb.trans (hn.mono hb.size)
  clear hK K
  clear hn
  refine wpF_do rfl ?_
  intro w1 hg K hK
  replace hb := hb.trans (hg.mono hb.size)
  try replace HB6 := Lib.hid (HB6.out.of hg); try replace HB7 := Lib.hid (HB7.out.of hg); try replace HB8 := Lib.hid (HB8.out.of hg); try replace HB9 := Lib.hid (HB9.out.of hg); try replace HB10 := Lib.hid (HB10.out.of hg)
  clear hg
  go_wp2_with ((first | (go_at_call 65; (with_reducible refine (bigMul_v (.agg #[.bool bn7, .slice ba7 bl7 bc7]) (.agg #[.bool nZ, .slice aZ lZ cZ]) ax Z r6 5 18 Hr6.out _ HB7.out (HZ.out.of hb) (by decide)).mono ?_); rintro e w2 ⟨v_, rfl, hbm, hn⟩; replace HB6 := Lib.hid (HB6.out.of hn); replace HB7 := Lib.hid (HB7.out.of hn); have HB8 := Lib.hid hbm; have hvm := hbm.shape; clear hbm; obtain ⟨bn8, ba8, bl8, bc8, rfl⟩ := hvm) | (go_at_call 65; (with_reducible refine (bigMul_v (.agg #[.bool bn6, .slice ba6 bl6 bc6]) (.agg #[.bool bn9, .slice ba9 bl9 bc9]) r5 r7 r8 5 24 Hr8.out _ HB6.out HB9.out (by decide)).mono ?_); rintro e w2 ⟨v_, rfl, hbm, hn⟩; replace HB6 := Lib.hid (HB6.out.of hn); replace HB7 := Lib.hid (HB7.out.of hn); replace HB8 := Lib.hid (HB8.out.of hn); replace HB9 := Lib.hid (HB9.out.of hn); have HB10 := Lib.hid hbm; have hvm := hbm.shape; clear hbm; obtain ⟨bn10, ba10, bl10, bc10, rfl⟩ := hvm)))
  refine hK.out _ _ hn ?_
  replace hb := hb.trans (hn.mono hb.size)
  clear hK K
  clear hn
  refine wpF_nil ?_
  clear hb
  intro w1 hg hb b1 lb1 nb1
  replace HB6 := Lib.hid (HB6.out.of hg)
  replace HB7 := Lib.hid (HB7.out.of hg)
  replace HB8 := Lib.hid (HB8.out.of hg)
  replace HB9 := Lib.hid (HB9.out.of hg)
  replace HB10 := Lib.hid (HB10.out.of hg)
  clear hg
  simp only [Act.put, ptrTo, List.setIfInBounds_toArray, List.set_cons_succ, List.set_cons_zero]
  simp only [List.drop_succ_cons, List.drop_zero]
  clear c1_0 c1_1 l1 c2_1 l2 c3_0 c3_1 c3_4 c3_5 l3
  first | refine calls_w ?_ | refine name_world ?_ | refine list_world ?_ | refine post_world ?_
  intro U4 hU4
  subst hU4
  have D11 := Lib.hid Kk1.out.lt
  have D12 := Lib.hid Kk2.out.lt
  have D13 := Lib.hid Kk3.out.lt
  have D14 := Lib.hid Kk4.out.lt
  have D15 := Lib.hid hb0.size
  have k5 : Blk U4 b1 #[.bool false, .slice none 0 0] 28 := nb1
  have k1 := Kk1.out.of hb
  clear Kk1
  have k2 := Kk2.out.of hb
  clear Kk2
  have k3 := Kk3.out.of hb
  clear Kk3
  have k4 := Kk4.out.of hb
  clear Kk4
  have D16 := Lib.hid lb1
  clear nb1 lb1
  replace HX := Lib.hid (HX.out.of hb)
  replace HY := Lib.hid (HY.out.of hb)
  replace HZ := Lib.hid (HZ.out.of hb)
  replace HB5 := Lib.hid (HB5.out.of hb)
  replace hb0 := hb0.trans (hb.mono hb0.size)
  clear hb
  generalize b1 = q5 at *
  have c4_0 : U4.cell? ⟨q4, 0, none⟩ = some (.bool bn5) := k4.cell 0
  have c4_1 : U4.cell? ⟨q4, 1, none⟩ = some (.slice ba5 bl5 bc5) := k4.cell 1
  have l4 := k4.lt
  have c5_0 : U4.cell? ⟨q5, 0, none⟩ = some (.bool false) := k5.cell 0
  have c5_1 : U4.cell? ⟨q5, 1, none⟩ = some (.slice none 0 0) := k5.cell 1
  have f5_0 := k5.free 0
  have f5_1 := k5.free 1
  have l5 := k5.lt
  have p4_5 : q4 ≠ q5 := (by have := D14.out; have := D16.out; omega)
  go_wp2_with fail
  clear c4_0 c4_1 l4 c5_0 c5_1 f5_0 f5_1 l5 p4_5
  first | refine calls_w ?_ | refine name_world ?_ | refine list_world ?_ | refine post_world ?_
  intro V5 hV5
  clear HX HY HZ HB6 HB7 HB8 HB9
  clear k1 k2 k3 k4
  have D17 := Lib.hid k5.lt
  have D18 := Lib.hid hb0.size
  have nk5 : Blk V5 q5 #[.bool bn10, .slice ba10 bl10 bc10] 28 := by rw [hV5]; exact (blk_full _ [.bool bn10, .slice ba10 bl10 bc10] k5 rfl)
  have nhb0 : Below w.heap.size w V5 := by rw [hV5]; exact (blw_setL hb0 (by have := D15.out; have := D16.out; omega) 0 [.bool bn10, .slice ba10 bl10 bc10])
  replace HB5 : Hid (Big V5 (.agg #[.bool bn5, .slice ba5 bl5 bc5]) r4 29) := Lib.hid (by rw [hV5]; exact (big_setL HB5.out (Blk.cell k5 0) (fun _ h => by cases h) 0 [.bool bn10, .slice ba10 bl10 bc10]))
  replace HB10 : Hid (Big V5 (.agg #[.bool bn10, .slice ba10 bl10 bc10]) r8 29) := Lib.hid (by rw [hV5]; exact (big_setL HB10.out (Blk.cell k5 0) (fun _ h => by cases h) 0 [.bool bn10, .slice ba10 bl10 bc10]))
  clear k5
  clear hb0
  clear hV5
  have k5 := nk5
  clear nk5
  have hb0 := nhb0
  clear nhb0
  obtain ⟨r9, hr9⟩ : ∃ o_o : Int, r4 - r8 = o_o := ⟨_, rfl⟩
  have Hr9 := Lib.hid hr9
  clear hr9
  refine (bigSub_v (.agg #[.bool bn5, .slice ba5 bl5 bc5]) (.agg #[.bool bn10, .slice ba10 bl10 bc10]) r4 r8 r9 29 Hr9.out _ HB5.out HB10.out (by decide)).mono ?_
  rintro e U6 ⟨v_, rfl, hbm, hn⟩
  clear HB5 HB10
  clear k5
  replace hb0 := hb0.trans (hn.mono hb0.size)
  clear hn
  have HB11 := Lib.hid hbm
  have hvm := hbm.shape
  clear hbm
  obtain ⟨bn11, ba11, bl11, bc11, rfl⟩ := hvm
  go_wp2_with fail
  obtain ⟨r10, hr10⟩ : ∃ o_o : Int, r9.sign = o_o := ⟨_, rfl⟩
  have Hr10 := Lib.hid hr10
  clear hr10
  refine (bigSign_v (.agg #[.bool bn11, .slice ba11 bl11 bc11]) r9 30 r10 Hr10.out _ HB11.out).mono ?_
  rintro e U7 ⟨rfl, hn⟩
  clear HB11
  replace hb0 := hb0.trans (hn.mono hb0.size)
  clear hn
  have e0 : r10 = R0 := by rw [← HR0.out]; unfold rsde; (try rw [Hr1.out]); (try rw [Hr2.out]); (try rw [Hr3.out]); (try rw [Hr4.out]); (try rw [Hr5.out]); (try rw [Hr6.out]); (try rw [Hr7.out]); (try rw [Hr8.out]); (try rw [Hr9.out]); (try rw [Hr10.out]); all_goals first | rfl | simp
  subst e0
  go_wp2
  first | go_ret | go_ret2
  exact ⟨by first | rfl | simp, hb0⟩
end Go.Proofs.Ytlcbomjdbdgbmaa

namespace Go.Proofs.Ytlcbomjdbdgbmaa
open Go.RowKit

def rhld (ax : Int) (ay : Int) (bx : Int) (b_y : Int) (X : Int) (Y : Int) (Z : Int) : Bool := (bif ((rsde ax ay bx b_y X Y Z) == 0) then (bif (ahd bx b_y ax ay) then (bif decide ((rspC (rAtx bx b_y) (rAty bx b_y) (rAtw bx b_y) X Y Z) ≤ 0) then decide ((rspC X Y Z (rAtx ax ay) (rAty ax ay) (rAtw ax ay)) ≤ 0) else false) else (bif decide ((rspC (rAtx ax ay) (rAty ax ay) (rAtw ax ay) X Y Z) ≤ 0) then decide ((rspC X Y Z (rAtx bx b_y) (rAty bx b_y) (rAtw bx b_y)) ≤ 0) else false)) else false)

set_option maxRecDepth 100000 in
set_option maxHeartbeats 4000000 in

theorem rHolds_is (ax : Int) (ay : Int) (bx : Int) (b_y : Int) (X : Int) (Y : Int) (Z : Int)  (R0 : Bool) (hR0 : rhld ax ay bx b_y X Y Z = R0) (_iax : In64 ax) (_iay : In64 ay) (_ibx : In64 bx) (_ib_y : In64 b_y) (nX : Bool) (aX : Option Addr) (lX cX : Nat) (nY : Bool) (aY : Option Addr) (lY cY : Nat) (nZ : Bool) (aZ : Option Addr) (lZ cZ : Nat) (w : World) (hX : Big w (.agg #[.bool nX, .slice aX lX cX]) X 18) (hY : Big w (.agg #[.bool nY, .slice aY lY cY]) Y 18) (hZ : Big w (.agg #[.bool nZ, .slice aZ lZ cZ]) Z 18) :
    Calls Try.prog 57 #[.agg #[.int .i64 ax, .int .i64 ay], .agg #[.int .i64 bx, .int .i64 b_y], .agg #[.bool nX, .slice aX lX cX, .bool nY, .slice aY lY cY, .bool nZ, .slice aZ lZ cZ]] w fun e w' => e = .returned (.bool R0) ∧ Below w.heap.size w w' := by

  have HX := Lib.hid hX
  clear hX
  have HY := Lib.hid hY
  clear hY
  have HZ := Lib.hid hZ
  clear hZ
  have HR0 := Lib.hid hR0
  clear hR0
  go_enter Try.func57, Try.ntmps57
  go_wp2_with fail
  first | refine calls_w ?_ | refine name_world ?_ | refine list_world ?_ | refine post_world ?_
  intro V1 hV1
  have hn : Below w.heap.size w V1 := by rw [hV1]; exact below_a3 _ _ _ _
  replace HX := Lib.hid (HX.out.of hn)
  replace HY := Lib.hid (HY.out.of hn)
  replace HZ := Lib.hid (HZ.out.of hn)
  have nhb0 := hn
  have k1 : Blk V1 w.heap.size #[.int .i64 ax, .int .i64 ay] 31 := by rw [hV1]; exact (((Blk.new _ _ _).alloc _).alloc _)
  have k2 : Blk V1 (w.heap.size + 1) #[.int .i64 bx, .int .i64 b_y] 31 := by rw [hV1]; exact ((Blk.new1 _ _ _ _).alloc _)
  have k3 : Blk V1 (w.heap.size + 1 + 1) #[.bool nX, .slice aX lX cX, .bool nY, .slice aY lY cY, .bool nZ, .slice aZ lZ cZ] 72 := by rw [hV1]; exact (Blk.new2 _ _ _ _ _)
  clear hV1
  have hb0 := nhb0
  clear nhb0
  obtain ⟨r1, hr1⟩ : ∃ o_o : Int, rsde ax ay bx b_y X Y Z = o_o := ⟨_, rfl⟩
  have Hr1 := Lib.hid hr1
  clear hr1
  refine (rSide_is ax ay bx b_y X Y Z r1 Hr1.out _iax _iay _ibx _ib_y nX aX lX cX nY aY lY cY nZ aZ lZ cZ _ HX.out HY.out HZ.out).mono ?_
  rintro e U2 ⟨rfl, hn⟩
  replace k1 := k1.of hn
  replace k2 := k2.of hn
  replace k3 := k3.of hn
  replace HX := Lib.hid (HX.out.of hn)
  replace HY := Lib.hid (HY.out.of hn)
  replace HZ := Lib.hid (HZ.out.of hn)
  replace hb0 := hb0.trans (hn.mono hb0.size)
  clear hn
  obtain ⟨z2, hz2⟩ : ∃ o_o : Bool, (r1 == 0) = o_o := ⟨_, rfl⟩
  cases z2
  · have nz2 : ¬ r1 = 0 := by simpa using hz2
    have e0 : false = R0 := by rw [← HR0.out]; unfold rhld; (try rw [Hr1.out]); (try rw [hz2]); all_goals first | rfl | simp
    subst e0
    go_wp2
    first | go_ret | go_ret2
    exact ⟨by first | rfl | simp, hb0⟩
  · obtain rfl : r1 = 0 := by simpa using hz2
    clear hz2
    have c1_0 : U2.cell? ⟨w.heap.size, 0, none⟩ = some (.int .i64 ax) := k1.cell 0
    have c1_1 : U2.cell? ⟨w.heap.size, 1, none⟩ = some (.int .i64 ay) := k1.cell 1
    have l1 := k1.lt
    have c2_0 : U2.cell? ⟨(w.heap.size + 1), 0, none⟩ = some (.int .i64 bx) := k2.cell 0
    have c2_1 : U2.cell? ⟨(w.heap.size + 1), 1, none⟩ = some (.int .i64 b_y) := k2.cell 1
    have l2 := k2.lt
    go_wp2_with fail
    clear c1_0 c1_1 l1 c2_0 c2_1 l2
    obtain ⟨z3, hz3⟩ : ∃ o_o : Bool, ahd bx b_y ax ay = o_o := ⟨_, rfl⟩
    have Hz3 := Lib.hid hz3
    clear hz3
    refine (rAhead_v bx b_y ax ay z3 Hz3.out _).mono ?_
    rintro e U3 ⟨rfl, hn⟩
    replace k1 := k1.of hn
    replace k2 := k2.of hn
    replace k3 := k3.of hn
    replace HX := Lib.hid (HX.out.of hn)
    replace HY := Lib.hid (HY.out.of hn)
    replace HZ := Lib.hid (HZ.out.of hn)
    replace hb0 := hb0.trans (hn.mono hb0.size)
    clear hn
    cases z3
    · go_wp2_with fail
      obtain ⟨r4, hr4⟩ : ∃ o_o : Int, rAtx ax ay = o_o := ⟨_, rfl⟩
      have Hr4 := Lib.hid hr4
      clear hr4
      obtain ⟨r5, hr5⟩ : ∃ o_o : Int, rAty ax ay = o_o := ⟨_, rfl⟩
      have Hr5 := Lib.hid hr5
      clear hr5
      obtain ⟨r6, hr6⟩ : ∃ o_o : Int, rAtw ax ay = o_o := ⟨_, rfl⟩
      have Hr6 := Lib.hid hr6
      clear hr6
      obtain ⟨r7, hr7⟩ : ∃ o_o : Int, rspC r4 r5 r6 X Y Z = o_o := ⟨_, rfl⟩
      have Hr7 := Lib.hid hr7
      clear hr7
      obtain ⟨z8, hz8⟩ : ∃ o_o : Bool, decide (r7 ≤ 0) = o_o := ⟨_, rfl⟩
      cases z8
      · have c1_0 : U3.cell? ⟨w.heap.size, 0, none⟩ = some (.int .i64 ax) := k1.cell 0
        have c1_1 : U3.cell? ⟨w.heap.size, 1, none⟩ = some (.int .i64 ay) := k1.cell 1
        have l1 := k1.lt
        have c3_0 : U3.cell? ⟨(w.heap.size + 1 + 1), 0, none⟩ = some (.bool nX) := k3.cell 0
        have c3_1 : U3.cell? ⟨(w.heap.size + 1 + 1), 1, none⟩ = some (.slice aX lX cX) := k3.cell 1
        have c3_2 : U3.cell? ⟨(w.heap.size + 1 + 1), 2, none⟩ = some (.bool nY) := k3.cell 2
        have c3_3 : U3.cell? ⟨(w.heap.size + 1 + 1), 3, none⟩ = some (.slice aY lY cY) := k3.cell 3
        have c3_4 : U3.cell? ⟨(w.heap.size + 1 + 1), 4, none⟩ = some (.bool nZ) := k3.cell 4
        have c3_5 : U3.cell? ⟨(w.heap.size + 1 + 1), 5, none⟩ = some (.slice aZ lZ cZ) := k3.cell 5
        have l3 := k3.lt
        have Kk1 := Lib.hid k1
        clear k1
        have Kk2 := Lib.hid k2
        clear k2
        have Kk3 := Lib.hid k3
        clear k3
        refine wp_region_up U3.heap.size 9 [(true, 0), (true, 2), (false, 1), (false, 3), (true, 4), (true, 5), (true, 6), (true, 7), (false, 8)] (by kernel_rfl) (by kernel_rfl) (fun _ _ d _ _ h => by cases d <;> exact h) ?_
        have hb : Below U3.heap.size U3 U3.drew := (Below.refl _ _).drew
        iterate 2
          refine wpS_takeL rfl rfl ?_
          go_big_quiet_step (rfl)
          refine wpQuiet_nil ?_
        refine wpS_doL rfl ?_
        intro K hK
        go_wp2_with ((go_at_call 61; (with_reducible refine (rAt_is ax ay r4 r5 r6 Hr4.out Hr5.out Hr6.out _iax _iay  _).mono ?_); rintro e w2 ⟨bn4, ba4, bl4, bc4, bn5, ba5, bl5, bc5, bn6, ba6, bl6, bc6, rfl, hbm4, hbm5, hbm6, hn⟩; have HB4 := Lib.hid hbm4; have HB5 := Lib.hid hbm5; have HB6 := Lib.hid hbm6; clear hbm4 hbm5 hbm6))
        replace hb := hb.trans (hn.mono hb.size)
        refine hK.out _ _ (up_iff.2 hb) ?_
        clear hK K
        clear hn
        refine wpS_doL rfl ?_
        intro K hK
        go_wp2_with ((go_at_call 56; (with_reducible refine (rSpC_is r4 r5 r6 X Y Z r7 Hr7.out  bn4 ba4 bl4 bc4 bn5 ba5 bl5 bc5 bn6 ba6 bl6 bc6 nX aX lX cX nY aY lY cY nZ aZ lZ cZ _ (HB4.out.mono (by decide)) (HB5.out.mono (by decide)) (HB6.out.mono (by decide)) (HX.out.of hb) (HY.out.of hb) (HZ.out.of hb)).mono ?_); rintro e w2 ⟨rfl, hn⟩; replace HB4 := Lib.hid (HB4.out.of hn); replace HB5 := Lib.hid (HB5.out.of hn); replace HB6 := Lib.hid (HB6.out.of hn)))
        replace hb := hb.trans (hn.mono hb.size)
        refine hK.out _ _ (up_iff.2 hb) ?_
        clear hK K
        clear hn
        iterate 4
          refine wpS_takeL rfl rfl ?_
          go_big_quiet_step (rfl)
          refine wpQuiet_nil ?_
        refine wpS_doL rfl ?_
        intro K hK
        go_wp2_with ((go_at_call 61; (with_reducible refine (rAt_is ax ay r4 r5 r6 Hr4.out Hr5.out Hr6.out _iax _iay  _).mono ?_); rintro e w2 ⟨bn4, ba4, bl4, bc4, bn5, ba5, bl5, bc5, bn6, ba6, bl6, bc6, rfl, hbm4, hbm5, hbm6, hn⟩; have HB4 := Lib.hid hbm4; have HB5 := Lib.hid hbm5; have HB6 := Lib.hid hbm6; clear hbm4 hbm5 hbm6))
        try replace hb := hb.trans (hn.mono hb.size)
        refine hK.out _ _ (up_iff.2 hb) ?_
        clear hK K
        try clear hn
        refine wpS_nil ?_
        simp only [List.drop_succ_cons, List.drop_zero]
        first | refine calls_w ?_ | refine name_world ?_ | refine list_world ?_ | refine post_world ?_
        intro U4 hU4
        first | subst hU4 | (rw [← hU4] at hb; clear hU4)
        clear c1_0 c1_1 l1 c3_0 c3_1 c3_2 c3_3 c3_4 c3_5 l3
        have k1 := Kk1.out.of hb
        clear Kk1
        have k2 := Kk2.out.of hb
        clear Kk2
        have k3 := Kk3.out.of hb
        clear Kk3
        replace HX := Lib.hid (HX.out.of hb)
        replace HY := Lib.hid (HY.out.of hb)
        replace HZ := Lib.hid (HZ.out.of hb)
        replace hb0 := hb0.trans (hb.mono hb0.size)
        clear hb
        have e0 : false = R0 := by rw [← HR0.out]; unfold rhld; (try rw [Hr1.out]); (try rw [Hz3.out]); (try rw [Hr4.out]); (try rw [Hr5.out]); (try rw [Hr6.out]); (try rw [Hr7.out]); (try rw [hz8]); all_goals first | rfl | simp
        subst e0
        go_wp2
        first | go_ret | go_ret2
        exact ⟨by first | rfl | simp, hb0⟩
      · obtain ⟨r9, hr9⟩ : ∃ o_o : Int, rAtx bx b_y = o_o := ⟨_, rfl⟩
        have Hr9 := Lib.hid hr9
        clear hr9
        obtain ⟨r10, hr10⟩ : ∃ o_o : Int, rAty bx b_y = o_o := ⟨_, rfl⟩
        have Hr10 := Lib.hid hr10
        clear hr10
        obtain ⟨r11, hr11⟩ : ∃ o_o : Int, rAtw bx b_y = o_o := ⟨_, rfl⟩
        have Hr11 := Lib.hid hr11
        clear hr11
        have c1_0 : U3.cell? ⟨w.heap.size, 0, none⟩ = some (.int .i64 ax) := k1.cell 0
        have c1_1 : U3.cell? ⟨w.heap.size, 1, none⟩ = some (.int .i64 ay) := k1.cell 1
        have l1 := k1.lt
        have c2_0 : U3.cell? ⟨(w.heap.size + 1), 0, none⟩ = some (.int .i64 bx) := k2.cell 0
        have c2_1 : U3.cell? ⟨(w.heap.size + 1), 1, none⟩ = some (.int .i64 b_y) := k2.cell 1
        have l2 := k2.lt
        have c3_0 : U3.cell? ⟨(w.heap.size + 1 + 1), 0, none⟩ = some (.bool nX) := k3.cell 0
        have c3_1 : U3.cell? ⟨(w.heap.size + 1 + 1), 1, none⟩ = some (.slice aX lX cX) := k3.cell 1
        have c3_2 : U3.cell? ⟨(w.heap.size + 1 + 1), 2, none⟩ = some (.bool nY) := k3.cell 2
        have c3_3 : U3.cell? ⟨(w.heap.size + 1 + 1), 3, none⟩ = some (.slice aY lY cY) := k3.cell 3
        have c3_4 : U3.cell? ⟨(w.heap.size + 1 + 1), 4, none⟩ = some (.bool nZ) := k3.cell 4
        have c3_5 : U3.cell? ⟨(w.heap.size + 1 + 1), 5, none⟩ = some (.slice aZ lZ cZ) := k3.cell 5
        have l3 := k3.lt
        have Kk1 := Lib.hid k1
        clear k1
        have Kk2 := Lib.hid k2
        clear k2
        have Kk3 := Lib.hid k3
        clear k3
        refine wp_region_up U3.heap.size 9 [(true, 0), (true, 2), (false, 1), (false, 3), (true, 4), (true, 5), (true, 6), (true, 7), (false, 8)] (by kernel_rfl) (by kernel_rfl) (fun _ _ d _ _ h => by cases d <;> exact h) ?_
        have hb : Below U3.heap.size U3 U3.drew := (Below.refl _ _).drew
        iterate 2
          refine wpS_takeL rfl rfl ?_
          go_big_quiet_step (rfl)
          refine wpQuiet_nil ?_
        refine wpS_doL rfl ?_
        intro K hK
        go_wp2_with ((first | (go_at_call 61; (with_reducible refine (rAt_is ax ay r4 r5 r6 Hr4.out Hr5.out Hr6.out _iax _iay  _).mono ?_); rintro e w2 ⟨bn7, ba7, bl7, bc7, bn8, ba8, bl8, bc8, bn9, ba9, bl9, bc9, rfl, hbm7, hbm8, hbm9, hn⟩; have HB7 := Lib.hid hbm7; have HB8 := Lib.hid hbm8; have HB9 := Lib.hid hbm9; clear hbm7 hbm8 hbm9) | (go_at_call 61; (with_reducible refine (rAt_is bx b_y r9 r10 r11 Hr9.out Hr10.out Hr11.out _ibx _ib_y  _).mono ?_); rintro e w2 ⟨bn10, ba10, bl10, bc10, bn11, ba11, bl11, bc11, bn12, ba12, bl12, bc12, rfl, hbm10, hbm11, hbm12, hn⟩; replace HB7 := Lib.hid (HB7.out.of hn); replace HB8 := Lib.hid (HB8.out.of hn); replace HB9 := Lib.hid (HB9.out.of hn); have HB10 := Lib.hid hbm10; have HB11 := Lib.hid hbm11; have HB12 := Lib.hid hbm12; clear hbm10 hbm11 hbm12)))
        replace hb := hb.trans (hn.mono hb.size)
        refine hK.out _ _ (up_iff.2 hb) ?_
        clear hK K
        clear hn
        refine wpS_doL rfl ?_
        intro K hK
        go_wp2_with ((go_at_call 56; (with_reducible refine (rSpC_is r4 r5 r6 X Y Z r7 Hr7.out  bn7 ba7 bl7 bc7 bn8 ba8 bl8 bc8 bn9 ba9 bl9 bc9 nX aX lX cX nY aY lY cY nZ aZ lZ cZ _ (HB7.out.mono (by decide)) (HB8.out.mono (by decide)) (HB9.out.mono (by decide)) (HX.out.of hb) (HY.out.of hb) (HZ.out.of hb)).mono ?_); rintro e w2 ⟨rfl, hn⟩; replace HB7 := Lib.hid (HB7.out.of hn); replace HB8 := Lib.hid (HB8.out.of hn); replace HB9 := Lib.hid (HB9.out.of hn)))
        replace hb := hb.trans (hn.mono hb.size)
        refine hK.out _ _ (up_iff.2 hb) ?_
        clear hK K
        clear hn
        iterate 4
          refine wpS_takeL rfl rfl ?_
          go_big_quiet_step (rfl)
          refine wpQuiet_nil ?_
        refine wpS_doL rfl ?_
        intro K hK
        go_wp2_with ((first | (go_at_call 61; (with_reducible refine (rAt_is ax ay r4 r5 r6 Hr4.out Hr5.out Hr6.out _iax _iay  _).mono ?_); rintro e w2 ⟨bn7, ba7, bl7, bc7, bn8, ba8, bl8, bc8, bn9, ba9, bl9, bc9, rfl, hbm7, hbm8, hbm9, hn⟩; have HB7 := Lib.hid hbm7; have HB8 := Lib.hid hbm8; have HB9 := Lib.hid hbm9; clear hbm7 hbm8 hbm9) | (go_at_call 61; (with_reducible refine (rAt_is bx b_y r9 r10 r11 Hr9.out Hr10.out Hr11.out _ibx _ib_y  _).mono ?_); rintro e w2 ⟨bn10, ba10, bl10, bc10, bn11, ba11, bl11, bc11, bn12, ba12, bl12, bc12, rfl, hbm10, hbm11, hbm12, hn⟩; replace HB7 := Lib.hid (HB7.out.of hn); replace HB8 := Lib.hid (HB8.out.of hn); replace HB9 := Lib.hid (HB9.out.of hn); have HB10 := Lib.hid hbm10; have HB11 := Lib.hid hbm11; have HB12 := Lib.hid hbm12; clear hbm10 hbm11 hbm12)))
        try replace hb := hb.trans (hn.mono hb.size)
        refine hK.out _ _ (up_iff.2 hb) ?_
        clear hK K
        try clear hn
        refine wpS_nil ?_
        simp only [List.drop_succ_cons, List.drop_zero]
        first | refine calls_w ?_ | refine name_world ?_ | refine list_world ?_ | refine post_world ?_
        intro U5 hU5
        first | subst hU5 | (rw [← hU5] at hb; clear hU5)
        clear c1_0 c1_1 l1 c2_0 c2_1 l2 c3_0 c3_1 c3_2 c3_3 c3_4 c3_5 l3
        have k1 := Kk1.out.of hb
        clear Kk1
        have k2 := Kk2.out.of hb
        clear Kk2
        have k3 := Kk3.out.of hb
        clear Kk3
        replace HX := Lib.hid (HX.out.of hb)
        replace HY := Lib.hid (HY.out.of hb)
        replace HZ := Lib.hid (HZ.out.of hb)
        replace hb0 := hb0.trans (hb.mono hb0.size)
        clear hb
        go_wp2_with fail
        obtain ⟨r12, hr12⟩ : ∃ o_o : Int, rspC X Y Z r9 r10 r11 = o_o := ⟨_, rfl⟩
        have Hr12 := Lib.hid hr12
        clear hr12
        refine (rSpC_is X Y Z r9 r10 r11 r12 Hr12.out  nX aX lX cX nY aY lY cY nZ aZ lZ cZ bn10 ba10 bl10 bc10 bn11 ba11 bl11 bc11 bn12 ba12 bl12 bc12 _ HX.out HY.out HZ.out (HB10.out.mono (by decide)) (HB11.out.mono (by decide)) (HB12.out.mono (by decide))).mono ?_
        rintro e U6 ⟨rfl, hn⟩
        clear HX HY HZ HB7 HB8 HB9 HB10 HB11 HB12
        clear k1 k2 k3
        replace hb0 := hb0.trans (hn.mono hb0.size)
        clear hn
        have e0 : decide (r12 ≤ 0) = R0 := by rw [← HR0.out]; unfold rhld; (try rw [Hr1.out]); (try rw [Hz3.out]); (try rw [Hr4.out]); (try rw [Hr5.out]); (try rw [Hr6.out]); (try rw [Hr7.out]); (try rw [hz8]); (try rw [Hr9.out]); (try rw [Hr10.out]); (try rw [Hr11.out]); (try rw [Hr12.out]); all_goals first | rfl | simp
        subst e0
        go_wp2
        first | go_ret | go_ret2
        exact ⟨by first | rfl | simp, hb0⟩
    · go_wp2_with fail
      obtain ⟨r13, hr13⟩ : ∃ o_o : Int, rAtx bx b_y = o_o := ⟨_, rfl⟩
      have Hr13 := Lib.hid hr13
      clear hr13
      obtain ⟨r14, hr14⟩ : ∃ o_o : Int, rAty bx b_y = o_o := ⟨_, rfl⟩
      have Hr14 := Lib.hid hr14
      clear hr14
      obtain ⟨r15, hr15⟩ : ∃ o_o : Int, rAtw bx b_y = o_o := ⟨_, rfl⟩
      have Hr15 := Lib.hid hr15
      clear hr15
      obtain ⟨r16, hr16⟩ : ∃ o_o : Int, rspC r13 r14 r15 X Y Z = o_o := ⟨_, rfl⟩
      have Hr16 := Lib.hid hr16
      clear hr16
      obtain ⟨z17, hz17⟩ : ∃ o_o : Bool, decide (r16 ≤ 0) = o_o := ⟨_, rfl⟩
      cases z17
      · have c2_0 : U3.cell? ⟨(w.heap.size + 1), 0, none⟩ = some (.int .i64 bx) := k2.cell 0
        have c2_1 : U3.cell? ⟨(w.heap.size + 1), 1, none⟩ = some (.int .i64 b_y) := k2.cell 1
        have l2 := k2.lt
        have c3_0 : U3.cell? ⟨(w.heap.size + 1 + 1), 0, none⟩ = some (.bool nX) := k3.cell 0
        have c3_1 : U3.cell? ⟨(w.heap.size + 1 + 1), 1, none⟩ = some (.slice aX lX cX) := k3.cell 1
        have c3_2 : U3.cell? ⟨(w.heap.size + 1 + 1), 2, none⟩ = some (.bool nY) := k3.cell 2
        have c3_3 : U3.cell? ⟨(w.heap.size + 1 + 1), 3, none⟩ = some (.slice aY lY cY) := k3.cell 3
        have c3_4 : U3.cell? ⟨(w.heap.size + 1 + 1), 4, none⟩ = some (.bool nZ) := k3.cell 4
        have c3_5 : U3.cell? ⟨(w.heap.size + 1 + 1), 5, none⟩ = some (.slice aZ lZ cZ) := k3.cell 5
        have l3 := k3.lt
        have Kk1 := Lib.hid k1
        clear k1
        have Kk2 := Lib.hid k2
        clear k2
        have Kk3 := Lib.hid k3
        clear k3
        refine wp_region_up U3.heap.size 9 [(true, 0), (true, 2), (false, 1), (false, 3), (true, 4), (true, 5), (true, 6), (true, 7), (false, 8)] (by kernel_rfl) (by kernel_rfl) (fun _ _ d _ _ h => by cases d <;> exact h) ?_
        have hb : Below U3.heap.size U3 U3.drew := (Below.refl _ _).drew
        iterate 2
          refine wpS_takeL rfl rfl ?_
          go_big_quiet_step (rfl)
          refine wpQuiet_nil ?_
        refine wpS_doL rfl ?_
        intro K hK
        go_wp2_with ((go_at_call 61; (with_reducible refine (rAt_is bx b_y r13 r14 r15 Hr13.out Hr14.out Hr15.out _ibx _ib_y  _).mono ?_); rintro e w2 ⟨bn16, ba16, bl16, bc16, bn17, ba17, bl17, bc17, bn18, ba18, bl18, bc18, rfl, hbm16, hbm17, hbm18, hn⟩; have HB16 := Lib.hid hbm16; have HB17 := Lib.hid hbm17; have HB18 := Lib.hid hbm18; clear hbm16 hbm17 hbm18))
        replace hb := hb.trans (hn.mono hb.size)
        refine hK.out _ _ (up_iff.2 hb) ?_
        clear hK K
        clear hn
        refine wpS_doL rfl ?_
        intro K hK
        go_wp2_with ((go_at_call 56; (with_reducible refine (rSpC_is r13 r14 r15 X Y Z r16 Hr16.out  bn16 ba16 bl16 bc16 bn17 ba17 bl17 bc17 bn18 ba18 bl18 bc18 nX aX lX cX nY aY lY cY nZ aZ lZ cZ _ (HB16.out.mono (by decide)) (HB17.out.mono (by decide)) (HB18.out.mono (by decide)) (HX.out.of hb) (HY.out.of hb) (HZ.out.of hb)).mono ?_); rintro e w2 ⟨rfl, hn⟩; replace HB16 := Lib.hid (HB16.out.of hn); replace HB17 := Lib.hid (HB17.out.of hn); replace HB18 := Lib.hid (HB18.out.of hn)))
        replace hb := hb.trans (hn.mono hb.size)
        refine hK.out _ _ (up_iff.2 hb) ?_
        clear hK K
        clear hn
        iterate 4
          refine wpS_takeL rfl rfl ?_
          go_big_quiet_step (rfl)
          refine wpQuiet_nil ?_
        refine wpS_doL rfl ?_
        intro K hK
        go_wp2_with ((go_at_call 61; (with_reducible refine (rAt_is bx b_y r13 r14 r15 Hr13.out Hr14.out Hr15.out _ibx _ib_y  _).mono ?_); rintro e w2 ⟨bn16, ba16, bl16, bc16, bn17, ba17, bl17, bc17, bn18, ba18, bl18, bc18, rfl, hbm16, hbm17, hbm18, hn⟩; have HB16 := Lib.hid hbm16; have HB17 := Lib.hid hbm17; have HB18 := Lib.hid hbm18; clear hbm16 hbm17 hbm18))
        try replace hb := hb.trans (hn.mono hb.size)
        refine hK.out _ _ (up_iff.2 hb) ?_
        clear hK K
        try clear hn
        refine wpS_nil ?_
        simp only [List.drop_succ_cons, List.drop_zero]
        first | refine calls_w ?_ | refine name_world ?_ | refine list_world ?_ | refine post_world ?_
        intro U7 hU7
        first | subst hU7 | (rw [← hU7] at hb; clear hU7)
        clear c2_0 c2_1 l2 c3_0 c3_1 c3_2 c3_3 c3_4 c3_5 l3
        have k1 := Kk1.out.of hb
        clear Kk1
        have k2 := Kk2.out.of hb
        clear Kk2
        have k3 := Kk3.out.of hb
        clear Kk3
        replace HX := Lib.hid (HX.out.of hb)
        replace HY := Lib.hid (HY.out.of hb)
        replace HZ := Lib.hid (HZ.out.of hb)
        replace hb0 := hb0.trans (hb.mono hb0.size)
        clear hb
        have e0 : false = R0 := by rw [← HR0.out]; unfold rhld; (try rw [Hr1.out]); (try rw [Hz3.out]); (try rw [Hr13.out]); (try rw [Hr14.out]); (try rw [Hr15.out]); (try rw [Hr16.out]); (try rw [hz17]); all_goals first | rfl | simp
        subst e0
        go_wp2
        first | go_ret | go_ret2
        exact ⟨by first | rfl | simp, hb0⟩
      · obtain ⟨r18, hr18⟩ : ∃ o_o : Int, rAtx ax ay = o_o := ⟨_, rfl⟩
        have Hr18 := Lib.hid hr18
        clear hr18
        obtain ⟨r19, hr19⟩ : ∃ o_o : Int, rAty ax ay = o_o := ⟨_, rfl⟩
        have Hr19 := Lib.hid hr19
        clear hr19
        obtain ⟨r20, hr20⟩ : ∃ o_o : Int, rAtw ax ay = o_o := ⟨_, rfl⟩
        have Hr20 := Lib.hid hr20
        clear hr20
        have c1_0 : U3.cell? ⟨w.heap.size, 0, none⟩ = some (.int .i64 ax) := k1.cell 0
        have c1_1 : U3.cell? ⟨w.heap.size, 1, none⟩ = some (.int .i64 ay) := k1.cell 1
        have l1 := k1.lt
        have c2_0 : U3.cell? ⟨(w.heap.size + 1), 0, none⟩ = some (.int .i64 bx) := k2.cell 0
        have c2_1 : U3.cell? ⟨(w.heap.size + 1), 1, none⟩ = some (.int .i64 b_y) := k2.cell 1
        have l2 := k2.lt
        have c3_0 : U3.cell? ⟨(w.heap.size + 1 + 1), 0, none⟩ = some (.bool nX) := k3.cell 0
        have c3_1 : U3.cell? ⟨(w.heap.size + 1 + 1), 1, none⟩ = some (.slice aX lX cX) := k3.cell 1
        have c3_2 : U3.cell? ⟨(w.heap.size + 1 + 1), 2, none⟩ = some (.bool nY) := k3.cell 2
        have c3_3 : U3.cell? ⟨(w.heap.size + 1 + 1), 3, none⟩ = some (.slice aY lY cY) := k3.cell 3
        have c3_4 : U3.cell? ⟨(w.heap.size + 1 + 1), 4, none⟩ = some (.bool nZ) := k3.cell 4
        have c3_5 : U3.cell? ⟨(w.heap.size + 1 + 1), 5, none⟩ = some (.slice aZ lZ cZ) := k3.cell 5
        have l3 := k3.lt
        have Kk1 := Lib.hid k1
        clear k1
        have Kk2 := Lib.hid k2
        clear k2
        have Kk3 := Lib.hid k3
        clear k3
        refine wp_region_up U3.heap.size 9 [(true, 0), (true, 2), (false, 1), (false, 3), (true, 4), (true, 5), (true, 6), (true, 7), (false, 8)] (by kernel_rfl) (by kernel_rfl) (fun _ _ d _ _ h => by cases d <;> exact h) ?_
        have hb : Below U3.heap.size U3 U3.drew := (Below.refl _ _).drew
        iterate 2
          refine wpS_takeL rfl rfl ?_
          go_big_quiet_step (rfl)
          refine wpQuiet_nil ?_
        refine wpS_doL rfl ?_
        intro K hK
        go_wp2_with ((first | (go_at_call 61; (with_reducible refine (rAt_is bx b_y r13 r14 r15 Hr13.out Hr14.out Hr15.out _ibx _ib_y  _).mono ?_); rintro e w2 ⟨bn19, ba19, bl19, bc19, bn20, ba20, bl20, bc20, bn21, ba21, bl21, bc21, rfl, hbm19, hbm20, hbm21, hn⟩; have HB19 := Lib.hid hbm19; have HB20 := Lib.hid hbm20; have HB21 := Lib.hid hbm21; clear hbm19 hbm20 hbm21) | (go_at_call 61; (with_reducible refine (rAt_is ax ay r18 r19 r20 Hr18.out Hr19.out Hr20.out _iax _iay  _).mono ?_); rintro e w2 ⟨bn22, ba22, bl22, bc22, bn23, ba23, bl23, bc23, bn24, ba24, bl24, bc24, rfl, hbm22, hbm23, hbm24, hn⟩; replace HB19 := Lib.hid (HB19.out.of hn); replace HB20 := Lib.hid (HB20.out.of hn); replace HB21 := Lib.hid (HB21.out.of hn); have HB22 := Lib.hid hbm22; have HB23 := Lib.hid hbm23; have HB24 := Lib.hid hbm24; clear hbm22 hbm23 hbm24)))
        replace hb := hb.trans (hn.mono hb.size)
        refine hK.out _ _ (up_iff.2 hb) ?_
        clear hK K
        clear hn
        refine wpS_doL rfl ?_
        intro K hK
        go_wp2_with ((go_at_call 56; (with_reducible refine (rSpC_is r13 r14 r15 X Y Z r16 Hr16.out  bn19 ba19 bl19 bc19 bn20 ba20 bl20 bc20 bn21 ba21 bl21 bc21 nX aX lX cX nY aY lY cY nZ aZ lZ cZ _ (HB19.out.mono (by decide)) (HB20.out.mono (by decide)) (HB21.out.mono (by decide)) (HX.out.of hb) (HY.out.of hb) (HZ.out.of hb)).mono ?_); rintro e w2 ⟨rfl, hn⟩; replace HB19 := Lib.hid (HB19.out.of hn); replace HB20 := Lib.hid (HB20.out.of hn); replace HB21 := Lib.hid (HB21.out.of hn)))
        replace hb := hb.trans (hn.mono hb.size)
        refine hK.out _ _ (up_iff.2 hb) ?_
        clear hK K
        clear hn
        iterate 4
          refine wpS_takeL rfl rfl ?_
          go_big_quiet_step (rfl)
          refine wpQuiet_nil ?_
        refine wpS_doL rfl ?_
        intro K hK
        go_wp2_with ((first | (go_at_call 61; (with_reducible refine (rAt_is bx b_y r13 r14 r15 Hr13.out Hr14.out Hr15.out _ibx _ib_y  _).mono ?_); rintro e w2 ⟨bn19, ba19, bl19, bc19, bn20, ba20, bl20, bc20, bn21, ba21, bl21, bc21, rfl, hbm19, hbm20, hbm21, hn⟩; have HB19 := Lib.hid hbm19; have HB20 := Lib.hid hbm20; have HB21 := Lib.hid hbm21; clear hbm19 hbm20 hbm21) | (go_at_call 61; (with_reducible refine (rAt_is ax ay r18 r19 r20 Hr18.out Hr19.out Hr20.out _iax _iay  _).mono ?_); rintro e w2 ⟨bn22, ba22, bl22, bc22, bn23, ba23, bl23, bc23, bn24, ba24, bl24, bc24, rfl, hbm22, hbm23, hbm24, hn⟩; replace HB19 := Lib.hid (HB19.out.of hn); replace HB20 := Lib.hid (HB20.out.of hn); replace HB21 := Lib.hid (HB21.out.of hn); have HB22 := Lib.hid hbm22; have HB23 := Lib.hid hbm23; have HB24 := Lib.hid hbm24; clear hbm22 hbm23 hbm24)))
        try replace hb := hb.trans (hn.mono hb.size)
        refine hK.out _ _ (up_iff.2 hb) ?_
        clear hK K
        try clear hn
        refine wpS_nil ?_
        simp only [List.drop_succ_cons, List.drop_zero]
        first | refine calls_w ?_ | refine name_world ?_ | refine list_world ?_ | refine post_world ?_
        intro U8 hU8
        first | subst hU8 | (rw [← hU8] at hb; clear hU8)
        clear c1_0 c1_1 l1 c2_0 c2_1 l2 c3_0 c3_1 c3_2 c3_3 c3_4 c3_5 l3
        have k1 := Kk1.out.of hb
        clear Kk1
        have k2 := Kk2.out.of hb
        clear Kk2
        have k3 := Kk3.out.of hb
        clear Kk3
        replace HX := Lib.hid (HX.out.of hb)
        replace HY := Lib.hid (HY.out.of hb)
        replace HZ := Lib.hid (HZ.out.of hb)
        replace hb0 := hb0.trans (hb.mono hb0.size)
        clear hb
        go_wp2_with fail
        obtain ⟨r21, hr21⟩ : ∃ o_o : Int, rspC X Y Z r18 r19 r20 = o_o := ⟨_, rfl⟩
        have Hr21 := Lib.hid hr21
        clear hr21
        refine (rSpC_is X Y Z r18 r19 r20 r21 Hr21.out  nX aX lX cX nY aY lY cY nZ aZ lZ cZ bn22 ba22 bl22 bc22 bn23 ba23 bl23 bc23 bn24 ba24 bl24 bc24 _ HX.out HY.out HZ.out (HB22.out.mono (by decide)) (HB23.out.mono (by decide)) (HB24.out.mono (by decide))).mono ?_
        rintro e U9 ⟨rfl, hn⟩
        clear HB19 HB20 HB21 HB22 HB23 HB24
        replace k1 := k1.of hn
        replace k2 := k2.of hn
        replace k3 := k3.of hn
        replace HX := Lib.hid (HX.out.of hn)
        replace HY := Lib.hid (HY.out.of hn)
        replace HZ := Lib.hid (HZ.out.of hn)
        replace hb0 := hb0.trans (hn.mono hb0.size)
        clear hn
        have e0 : decide (r21 ≤ 0) = R0 := by rw [← HR0.out]; unfold rhld; (try rw [Hr1.out]); (try rw [Hz3.out]); (try rw [Hr13.out]); (try rw [Hr14.out]); (try rw [Hr15.out]); (try rw [Hr16.out]); (try rw [hz17]); (try rw [Hr18.out]); (try rw [Hr19.out]); (try rw [Hr20.out]); (try rw [Hr21.out]); all_goals first | rfl | simp
        subst e0
        go_wp2
        first | go_ret | go_ret2
        exact ⟨by first | rfl | simp, hb0⟩

def crfx (x : Int) (y : Int) : Int := x

def crfy (x : Int) (y : Int) : Int := y

set_option maxRecDepth 100000 in
set_option maxHeartbeats 4000000 in

theorem cref_is (x : Int) (y : Int)  (R0 : Int) (R1 : Int) (hR0 : crfx x y = R0) (hR1 : crfy x y = R1) (_ix : In64 x) (_iy : In64 y)  (w : World)  :
    Calls Try.prog 52 #[.agg #[.int .i64 x, .int .i64 y]] w fun e w' => e = .returned (.agg #[.int .i64 R0, .int .i64 R1]) ∧ Below w.heap.size w w' := by

  have HR0 := Lib.hid hR0
  clear hR0
  have HR1 := Lib.hid hR1
  clear hR1
  go_enter Try.func52, Try.ntmps52
  have e0 : x = R0 := by rw [← HR0.out]; unfold crfx; all_goals first | rfl | simp
  have e1 : y = R1 := by rw [← HR1.out]; unfold crfy; all_goals first | rfl | simp
  subst e0
  subst e1
  go_wp2
  first | refine post_world ?_
  intro V1 hV1
  have hn : Below w.heap.size w V1 := by rw [hV1]; exact below_a2 _ _ _
  have nhb0 := hn
  have k2 : Blk V1 (w.heap.size + 1) #[.int .i64 x, .int .i64 y] 31 := by rw [hV1]; exact (Blk.new1 _ _ _ _)
  clear hV1
  have hb0 := nhb0
  clear nhb0
  have g2_0 : V1.cell? ⟨(w.heap.size + 1), 0, none⟩ = some (.int .i64 x) := k2.cell 0
  have g2_1 : V1.cell? ⟨(w.heap.size + 1), 1, none⟩ = some (.int .i64 y) := k2.cell 1
  clear k2
  simp [bodyPost, results, Try.results52, go_sem, g2_0, g2_1]
  first | exact hb0 | exact ⟨rfl, hb0⟩

def cspx (x : Int) (y : Int) (v : Int) : Int := (x)

def cspy (x : Int) (y : Int) (v : Int) : Int := (y)

def cspv (x : Int) (y : Int) (v : Int) : Int := (v)

def cspot_is_post (w : World) (R0 : Int) (R1 : Int) (R2 : Int) (e : Ending) (w' : World) : Prop := ∃ (m0 : Bool) (p0 : Option Addr) (q0 t0 : Nat) (m1 : Bool) (p1 : Option Addr) (q1 t1 : Nat) (m2 : Bool) (p2 : Option Addr) (q2 t2 : Nat), e = .returned (.agg #[.bool m0, .slice p0 q0 t0, .bool m1, .slice p1 q1 t1, .bool m2, .slice p2 q2 t2]) ∧ Big w' (.agg #[.bool m0, .slice p0 q0 t0]) R0 18 ∧ Big w' (.agg #[.bool m1, .slice p1 q1 t1]) R1 18 ∧ Big w' (.agg #[.bool m2, .slice p2 q2 t2]) R2 18 ∧ Below w.heap.size w w'

set_option maxRecDepth 100000 in
set_option maxHeartbeats 4000000 in

theorem cspot_is (x : Int) (y : Int) (v : Int)  (R0 : Int) (R1 : Int) (R2 : Int) (hR0 : cspx x y v = R0) (hR1 : cspy x y v = R1) (hR2 : cspv x y v = R2) (_ix : InI x) (_iy : InI y) (_iv : InI v)  (w : World)  :
    Calls Try.prog 55 #[.agg #[.int .u64 (wd0 x), .int .u64 (wd1 x), .int .u64 (wd2 x), .int .u64 (wd3 x), .int .u64 (wd0 y), .int .u64 (wd1 y), .int .u64 (wd2 y), .int .u64 (wd3 y), .int .u64 (wd0 v), .int .u64 (wd1 v), .int .u64 (wd2 v), .int .u64 (wd3 v)]] w (cspot_is_post w R0 R1 R2) := by

  have HR0 := Lib.hid hR0
  clear hR0
  have HR1 := Lib.hid hR1
  clear hR1
  have HR2 := Lib.hid hR2
  clear hR2
  go_enter Try.func55, Try.ntmps55
  go_wp2_with fail
  first | refine calls_w ?_ | refine name_world ?_ | refine list_world ?_ | refine post_world ?_
  intro V1 hV1
  have hn : Below w.heap.size w V1 := by rw [hV1]; exact below_a2 _ _ _
  have nhb0 := hn
  have k1 : Blk V1 w.heap.size #[.int .u64 (wd0 x), .int .u64 (wd1 x), .int .u64 (wd2 x), .int .u64 (wd3 x), .int .u64 (wd0 y), .int .u64 (wd1 y), .int .u64 (wd2 y), .int .u64 (wd3 y), .int .u64 (wd0 v), .int .u64 (wd1 v), .int .u64 (wd2 v), .int .u64 (wd3 v)] 67 := by rw [hV1]; exact ((Blk.new _ _ _).alloc _)
  have k2 : Blk V1 (w.heap.size + 1) #[.bool false, .slice none 0 0, .bool false, .slice none 0 0, .bool false, .slice none 0 0] 72 := by rw [hV1]; exact (Blk.new1 _ _ _ _)
  clear hV1
  have hb0 := nhb0
  clear nhb0
  obtain ⟨r1, hr1⟩ : ∃ o_o : Int, x = o_o := ⟨_, rfl⟩
  have Hr1 := Lib.hid hr1
  clear hr1
  obtain ⟨r2, hr2⟩ : ∃ o_o : Int, y = o_o := ⟨_, rfl⟩
  have Hr2 := Lib.hid hr2
  clear hr2
  have c1_0 : V1.cell? ⟨w.heap.size, 0, none⟩ = some (.int .u64 (wd0 x)) := k1.cell 0
  have c1_1 : V1.cell? ⟨w.heap.size, 1, none⟩ = some (.int .u64 (wd1 x)) := k1.cell 1
  have c1_2 : V1.cell? ⟨w.heap.size, 2, none⟩ = some (.int .u64 (wd2 x)) := k1.cell 2
  have c1_3 : V1.cell? ⟨w.heap.size, 3, none⟩ = some (.int .u64 (wd3 x)) := k1.cell 3
  have c1_4 : V1.cell? ⟨w.heap.size, 4, none⟩ = some (.int .u64 (wd0 y)) := k1.cell 4
  have c1_5 : V1.cell? ⟨w.heap.size, 5, none⟩ = some (.int .u64 (wd1 y)) := k1.cell 5
  have c1_6 : V1.cell? ⟨w.heap.size, 6, none⟩ = some (.int .u64 (wd2 y)) := k1.cell 6
  have c1_7 : V1.cell? ⟨w.heap.size, 7, none⟩ = some (.int .u64 (wd3 y)) := k1.cell 7
  have c1_8 : V1.cell? ⟨w.heap.size, 8, none⟩ = some (.int .u64 (wd0 v)) := k1.cell 8
  have c1_9 : V1.cell? ⟨w.heap.size, 9, none⟩ = some (.int .u64 (wd1 v)) := k1.cell 9
  have c1_10 : V1.cell? ⟨w.heap.size, 10, none⟩ = some (.int .u64 (wd2 v)) := k1.cell 10
  have c1_11 : V1.cell? ⟨w.heap.size, 11, none⟩ = some (.int .u64 (wd3 v)) := k1.cell 11
  have l1 := k1.lt
  have Kk1 := Lib.hid k1
  clear k1
  have Kk2 := Lib.hid k2
  clear k2
  refine wp_region_up V1.heap.size 8 [(true, 0), (true, 1), (true, 3), (true, 4), (true, 6), (true, 7), (false, 2), (false, 5)] (by kernel_rfl) (by kernel_rfl) (fun _ _ d _ _ h => by cases d <;> exact h) ?_
  have hb : Below V1.heap.size V1 V1.drew := (Below.refl _ _).drew
  iterate 6
    refine wpS_takeL rfl rfl ?_
    go_big_quiet_step (rfl)
    refine wpQuiet_nil ?_
  refine wpS_doL rfl ?_
  intro K hK
  go_wp2_with ((first | (go_at_call 24; (with_reducible refine (Read_v x r1 Hr1.out _ix _).mono ?_); rintro e w2 ⟨v_, rfl, hbm, hn⟩; have HB1 := Lib.hid hbm; have hvm := hbm.shape; clear hbm; obtain ⟨bn1, ba1, bl1, bc1, rfl⟩ := hvm) | (go_at_call 24; (with_reducible refine (Read_v y r2 Hr2.out _iy _).mono ?_); rintro e w2 ⟨v_, rfl, hbm, hn⟩; replace HB1 := Lib.hid (HB1.out.of hn); have HB2 := Lib.hid hbm; have hvm := hbm.shape; clear hbm; obtain ⟨bn2, ba2, bl2, bc2, rfl⟩ := hvm)))
  replace hb := hb.trans (hn.mono hb.size)
  refine hK.out _ _ (up_iff.2 hb) ?_
  clear hK K
  clear hn
  refine wpS_doL rfl ?_
  intro K hK
  go_wp2_with ((first | (go_at_call 24; (with_reducible refine (Read_v x r1 Hr1.out _ix _).mono ?_); rintro e w2 ⟨v_, rfl, hbm, hn⟩; have HB1 := Lib.hid hbm; have hvm := hbm.shape; clear hbm; obtain ⟨bn1, ba1, bl1, bc1, rfl⟩ := hvm) | (go_at_call 24; (with_reducible refine (Read_v y r2 Hr2.out _iy _).mono ?_); rintro e w2 ⟨v_, rfl, hbm, hn⟩; replace HB1 := Lib.hid (HB1.out.of hn); have HB2 := Lib.hid hbm; have hvm := hbm.shape; clear hbm; obtain ⟨bn2, ba2, bl2, bc2, rfl⟩ := hvm)))
  replace hb := hb.trans (hn.mono hb.size)
  refine hK.out _ _ (up_iff.2 hb) ?_
  clear hK K
  clear hn
  refine wpS_nil ?_
  simp only [List.drop_succ_cons, List.drop_zero]
  first | refine calls_w ?_ | refine name_world ?_ | refine list_world ?_ | refine post_world ?_
  intro U2 hU2
  first | subst hU2 | (rw [← hU2] at hb; clear hU2)
  clear c1_0 c1_1 c1_2 c1_3 c1_4 c1_5 c1_6 c1_7 c1_8 c1_9 c1_10 c1_11 l1
  have k1 := Kk1.out.of hb
  clear Kk1
  have k2 := Kk2.out.of hb
  clear Kk2
  replace hb0 := hb0.trans (hb.mono hb0.size)
  clear hb
  go_wp2_with fail
  obtain ⟨r3, hr3⟩ : ∃ o_o : Int, v = o_o := ⟨_, rfl⟩
  have Hr3 := Lib.hid hr3
  clear hr3
  refine (Read_v v r3 Hr3.out _iv _).mono ?_
  rintro e U3 ⟨v_, rfl, hbm, hn⟩
  clear k1
  replace k2 := k2.of hn
  replace HB1 := Lib.hid (HB1.out.of hn)
  replace HB2 := Lib.hid (HB2.out.of hn)
  replace hb0 := hb0.trans (hn.mono hb0.size)
  clear hn
  have HB3 := Lib.hid hbm
  have hvm := hbm.shape
  clear hbm
  obtain ⟨bn3, ba3, bl3, bc3, rfl⟩ := hvm
  have c2_0 : U3.cell? ⟨(w.heap.size + 1), 0, none⟩ = some (.bool false) := k2.cell 0
  have c2_1 : U3.cell? ⟨(w.heap.size + 1), 1, none⟩ = some (.slice none 0 0) := k2.cell 1
  have c2_2 : U3.cell? ⟨(w.heap.size + 1), 2, none⟩ = some (.bool false) := k2.cell 2
  have c2_3 : U3.cell? ⟨(w.heap.size + 1), 3, none⟩ = some (.slice none 0 0) := k2.cell 3
  have c2_4 : U3.cell? ⟨(w.heap.size + 1), 4, none⟩ = some (.bool false) := k2.cell 4
  have c2_5 : U3.cell? ⟨(w.heap.size + 1), 5, none⟩ = some (.slice none 0 0) := k2.cell 5
  have f2_0 := k2.free 0
  have f2_1 := k2.free 1
  have f2_2 := k2.free 2
  have f2_3 := k2.free 3
  have f2_4 := k2.free 4
  have f2_5 := k2.free 5
  have l2 := k2.lt
  have e0 : r1 = R0 := by rw [← HR0.out]; unfold cspx; (try rw [Hr1.out]); (try rw [Hr2.out]); (try rw [Hr3.out]); all_goals first | rfl | simp
  have e1 : r2 = R1 := by rw [← HR1.out]; unfold cspy; (try rw [Hr1.out]); (try rw [Hr2.out]); (try rw [Hr3.out]); all_goals first | rfl | simp
  have e2 : r3 = R2 := by rw [← HR2.out]; unfold cspv; (try rw [Hr1.out]); (try rw [Hr2.out]); (try rw [Hr3.out]); all_goals first | rfl | simp
  subst e0
  subst e1
  subst e2
  go_wp2
  clear c2_0 c2_1 c2_2 c2_3 c2_4 c2_5 f2_0 f2_1 f2_2 f2_3 f2_4 f2_5 l2
  first | refine post_world ?_
  intro V4 hV4
  have D1 := Lib.hid k2.lt
  have D2 := Lib.hid hb0.size
  have nk2 : Blk V4 (w.heap.size + 1) #[.bool bn1, .slice ba1 bl1 bc1, .bool bn2, .slice ba2 bl2 bc2, .bool bn3, .slice ba3 bl3 bc3] 72 := by rw [hV4]; exact (blk_full _ [.bool bn1, .slice ba1 bl1 bc1, .bool bn2, .slice ba2 bl2 bc2, .bool bn3, .slice ba3 bl3 bc3] k2 rfl)
  have nhb0 : Below w.heap.size w V4 := by rw [hV4]; exact (blw_setL hb0 (by omega) 0 [.bool bn1, .slice ba1 bl1 bc1, .bool bn2, .slice ba2 bl2 bc2, .bool bn3, .slice ba3 bl3 bc3])
  replace HB1 : Hid (Big V4 (.agg #[.bool bn1, .slice ba1 bl1 bc1]) r1 18) := Lib.hid (by rw [hV4]; exact (big_setL HB1.out (Blk.cell k2 0) (fun _ h => by cases h) 0 [.bool bn1, .slice ba1 bl1 bc1, .bool bn2, .slice ba2 bl2 bc2, .bool bn3, .slice ba3 bl3 bc3]))
  replace HB2 : Hid (Big V4 (.agg #[.bool bn2, .slice ba2 bl2 bc2]) r2 18) := Lib.hid (by rw [hV4]; exact (big_setL HB2.out (Blk.cell k2 0) (fun _ h => by cases h) 0 [.bool bn1, .slice ba1 bl1 bc1, .bool bn2, .slice ba2 bl2 bc2, .bool bn3, .slice ba3 bl3 bc3]))
  replace HB3 : Hid (Big V4 (.agg #[.bool bn3, .slice ba3 bl3 bc3]) r3 18) := Lib.hid (by rw [hV4]; exact (big_setL HB3.out (Blk.cell k2 0) (fun _ h => by cases h) 0 [.bool bn1, .slice ba1 bl1 bc1, .bool bn2, .slice ba2 bl2 bc2, .bool bn3, .slice ba3 bl3 bc3]))
  clear k2
  clear hb0
  clear hV4
  have k2 := nk2
  clear nk2
  have hb0 := nhb0
  clear nhb0
  have g2_0 : V4.cell? ⟨(w.heap.size + 1), 0, none⟩ = some (.bool bn1) := k2.cell 0
  have g2_1 : V4.cell? ⟨(w.heap.size + 1), 1, none⟩ = some (.slice ba1 bl1 bc1) := k2.cell 1
  have g2_2 : V4.cell? ⟨(w.heap.size + 1), 2, none⟩ = some (.bool bn2) := k2.cell 2
  have g2_3 : V4.cell? ⟨(w.heap.size + 1), 3, none⟩ = some (.slice ba2 bl2 bc2) := k2.cell 3
  have g2_4 : V4.cell? ⟨(w.heap.size + 1), 4, none⟩ = some (.bool bn3) := k2.cell 4
  have g2_5 : V4.cell? ⟨(w.heap.size + 1), 5, none⟩ = some (.slice ba3 bl3 bc3) := k2.cell 5
  clear k2
  simp [bodyPost, results, Try.results55, go_sem, g2_0, g2_1, g2_2, g2_3, g2_4, g2_5]
  exact ⟨_, _, _, _, _, _, _, _, _, _, _, _, rfl, (HB1.out.mono (by decide)), (HB2.out.mono (by decide)), (HB3.out.mono (by decide)), hb0⟩

def crR (ax : Int) (ay : Int) (bx : Int) (b_y : Int) : Bool := (bif (rp (crfx ax ay) (crfy ax ay)) then (rp (crfx bx b_y) (crfy bx b_y)) else false)

set_option maxRecDepth 100000 in
set_option maxHeartbeats 4000000 in

theorem cright_is (ax : Int) (ay : Int) (bx : Int) (b_y : Int)  (R0 : Bool) (hR0 : crR ax ay bx b_y = R0) (_iax : In64 ax) (_iay : In64 ay) (_ibx : In64 bx) (_ib_y : In64 b_y)  (w : World)  :
    Calls Try.prog 50 #[.agg #[.int .i64 ax, .int .i64 ay, .int .i64 bx, .int .i64 b_y]] w fun e w' => e = .returned (.bool R0) ∧ Below w.heap.size w w' := by

  have HR0 := Lib.hid hR0
  clear hR0
  go_enter Try.func50, Try.ntmps50
  go_wp2_with fail
  first | refine calls_w ?_ | refine name_world ?_ | refine list_world ?_ | refine post_world ?_
  intro V1 hV1
  have hn : Below w.heap.size w V1 := by rw [hV1]; exact below_a1 _ _
  have nhb0 := hn
  have k1 : Blk V1 w.heap.size #[.int .i64 ax, .int .i64 ay, .int .i64 bx, .int .i64 b_y] 50 := by rw [hV1]; exact (Blk.new _ _ _)
  clear hV1
  have hb0 := nhb0
  clear nhb0
  obtain ⟨r1, hr1⟩ : ∃ o_o : Int, crfx ax ay = o_o := ⟨_, rfl⟩
  have Hr1 := Lib.hid hr1
  clear hr1
  obtain ⟨r2, hr2⟩ : ∃ o_o : Int, crfy ax ay = o_o := ⟨_, rfl⟩
  have Hr2 := Lib.hid hr2
  clear hr2
  refine (cref_is ax ay r1 r2 Hr1.out Hr2.out _iax _iay  _).mono ?_
  rintro e U2 ⟨rfl, hn⟩
  replace k1 := k1.of hn
  replace hb0 := hb0.trans (hn.mono hb0.size)
  clear hn
  go_wp2_with fail
  obtain ⟨z3, hz3⟩ : ∃ o_o : Bool, rp r1 r2 = o_o := ⟨_, rfl⟩
  have Hz3 := Lib.hid hz3
  clear hz3
  refine (rRight_v r1 r2 z3 Hz3.out _).mono ?_
  rintro e U3 ⟨rfl, hn⟩
  replace k1 := k1.of hn
  replace hb0 := hb0.trans (hn.mono hb0.size)
  clear hn
  cases z3
  · have e0 : false = R0 := by rw [← HR0.out]; unfold crR; (try rw [Hr1.out]); (try rw [Hr2.out]); (try rw [Hz3.out]); all_goals first | rfl | simp
    subst e0
    go_wp2
    first | go_ret | go_ret2
    exact ⟨by first | rfl | simp, hb0⟩
  · have c1_2 : U3.cell? ⟨w.heap.size, 2, none⟩ = some (.int .i64 bx) := k1.cell 2
    have c1_3 : U3.cell? ⟨w.heap.size, 3, none⟩ = some (.int .i64 b_y) := k1.cell 3
    have l1 := k1.lt
    go_wp2_with fail
    clear c1_2 c1_3 l1
    obtain ⟨r4, hr4⟩ : ∃ o_o : Int, crfx bx b_y = o_o := ⟨_, rfl⟩
    have Hr4 := Lib.hid hr4
    clear hr4
    obtain ⟨r5, hr5⟩ : ∃ o_o : Int, crfy bx b_y = o_o := ⟨_, rfl⟩
    have Hr5 := Lib.hid hr5
    clear hr5
    refine (cref_is bx b_y r4 r5 Hr4.out Hr5.out _ibx _ib_y  _).mono ?_
    rintro e U4 ⟨rfl, hn⟩
    clear k1
    replace hb0 := hb0.trans (hn.mono hb0.size)
    clear hn
    go_wp2_with fail
    obtain ⟨z6, hz6⟩ : ∃ o_o : Bool, rp r4 r5 = o_o := ⟨_, rfl⟩
    have Hz6 := Lib.hid hz6
    clear hz6
    refine (rRight_v r4 r5 z6 Hz6.out _).mono ?_
    rintro e U5 ⟨rfl, hn⟩
    replace hb0 := hb0.trans (hn.mono hb0.size)
    clear hn
    have e0 : z6 = R0 := by rw [← HR0.out]; unfold crR; (try rw [Hr1.out]); (try rw [Hr2.out]); (try rw [Hz3.out]); (try rw [Hr4.out]); (try rw [Hr5.out]); (try rw [Hz6.out]); all_goals first | rfl | simp
    subst e0
    go_wp2
    first | go_ret | go_ret2
    exact ⟨by first | rfl | simp, hb0⟩
end Go.Proofs.Ytlcbomjdbdgbmaa

namespace Go.Proofs.Ytlcbomjdbdgbmaa
open Go.RowKit

theorem sg_true {ax ay bx b_y : Int} (h : sgR ax ay bx b_y = true) : rp ax ay = true ∧ rp bx b_y = true := by
  unfold sgR at h
  cases h1 : rp ax ay
  · rw [h1] at h; cases h
  · rw [h1] at h; exact ⟨rfl, h⟩
theorem co_wrap {x y : Int} (hx : Co x) (hy : Co y) : wrap64 (x - y) = x - y := wrap64_id (by unfold Co at hx hy; unfold In64; omega)
theorem mul_64 {a b : Int} (ha : In64 a) (hb : In64 b) : -85070591730234615865843651857942052864 ≤ a * b ∧ a * b ≤ 85070591730234615865843651857942052864 :=
  mul_bd (a := 9223372036854775808) (b := 9223372036854775808) (by decide) (by unfold In64 at ha; omega) (by unfold In64 at hb; omega)
theorem mulv_64 {a b : Int} (ha : In64 a) (hb : In64 b) : mulv a b = a * b := mulv_id (by have := mul_64 ha hb; unfold InI b255; omega)
theorem subv_64 {a b c d : Int} (ha : In64 a) (hb : In64 b) (hc : In64 c) (hd : In64 d) : subv (a * b) (c * d) = a * b - c * d := subv_id (by
  have h1 := mul_64 ha hb
  have h2 := mul_64 hc hd
  generalize a * b = p at *
  generalize c * d = q at *
  unfold InI b255; omega)
theorem wyx_64 (ax ay bx b_y : Int) : In64 (wyx ax ay bx b_y) := wrap64_in _
theorem wyy_64 (ax ay bx b_y : Int) : In64 (wyy ax ay bx b_y) := wrap64_in _
theorem slp_eq {ax ay bx b_y cx cy dx dy : Int} (h1 : sgR ax ay bx b_y = true) (h2 : sgR cx cy dx dy = true) :
    slp ax ay bx b_y cx cy dx dy = (wyx cx cy dx dy * wyy ax ay bx b_y - wyy cx cy dx dy * wyx ax ay bx b_y).sign := by
  unfold slp
  rw [h1, h2, cond_true, cond_true, mulv_64 (wyx_64 _ _ _ _) (wyy_64 _ _ _ _), mulv_64 (wyy_64 _ _ _ _) (wyx_64 _ _ _ _), subv_64 (wyx_64 _ _ _ _) (wyy_64 _ _ _ _) (wyy_64 _ _ _ _) (wyx_64 _ _ _ _)]
/-- the spots that are right, in numbers -/
theorem sp_most {v : Int} (h0 : 0 < v) (h1 : v ≤ 1237940039285380274899124224) : mulv v 2199023255552 = 2199023255552 * v ∧ subv 0 (2199023255552 * v) = -(2199023255552 * v) := by
  refine ⟨?_, ?_⟩
  · rw [mulv_id (by unfold InI b255; omega)]; omega
  · rw [subv_id (by unfold InI b255; omega)]; omega
theorem most90 : mulv 35184372088832 35184372088832 = 1237940039285380274899124224 := by decide
theorem spR_eq (x y v : Int) : spR x y v = rspR x y v := by
  unfold spR rspR
  rw [most90]
  by_cases h0 : v.sign ≤ 0
  · rw [decide_eq_true h0]; rfl
  · rw [decide_eq_false h0]
    by_cases h1 : 0 < cmpI v 1237940039285380274899124224
    · rw [decide_eq_true h1]; rfl
    · rw [decide_eq_false h1]
      have p0 : 0 < v := by
        rcases Int.lt_trichotomy v 0 with h | h | h
        · exact absurd (by rw [Int.sign_eq_neg_one_of_neg h]; decide) h0
        · exact absurd (by rw [h]; decide) h0
        · exact h
      have p1 : v ≤ 1237940039285380274899124224 := by
        rcases Int.lt_trichotomy v 1237940039285380274899124224 with h | h | h
        · omega
        · omega
        · exact absurd (by rw [cmpI_gt h]; decide) h1
      obtain ⟨e1, e2⟩ := sp_most p0 p1
      rw [e1, e2]
theorem cmp_le0 {a b : Int} : decide (cmpI a b ≤ 0) = decide (a ≤ b) := by
  rcases Int.lt_trichotomy a b with h | h | h
  · rw [cmpI_lt h, decide_eq_true (show a ≤ b by omega)]; rfl
  · subst h; rw [cmpI_eq, decide_eq_true (Int.le_refl a)]; rfl
  · rw [cmpI_gt h, decide_eq_false (show ¬ a ≤ b by omega)]; rfl
theorem cmp_ge0 {a b : Int} : decide (0 ≤ cmpI a b) = decide (b ≤ a) := by
  rcases Int.lt_trichotomy a b with h | h | h
  · rw [cmpI_lt h, decide_eq_false (show ¬ b ≤ a by omega)]; rfl
  · subst h; rw [cmpI_eq, decide_eq_true (Int.le_refl a)]; rfl
  · rw [cmpI_gt h, decide_eq_true (show b ≤ a by omega)]; rfl
theorem cmp_gt0 {a b : Int} : decide (0 < cmpI a b) = decide (b < a) := by
  rcases Int.lt_trichotomy a b with h | h | h
  · rw [cmpI_lt h, decide_eq_false (show ¬ b < a by omega)]; rfl
  · subst h; rw [cmpI_eq, decide_eq_false (show ¬ a < a by omega)]; rfl
  · rw [cmpI_gt h, decide_eq_true h]; rfl
theorem cmp_lt0 {a b : Int} : decide (cmpI a b < 0) = decide (a < b) := by
  rcases Int.lt_trichotomy a b with h | h | h
  · rw [cmpI_lt h, decide_eq_true h]; rfl
  · subst h; rw [cmpI_eq, decide_eq_false (show ¬ a < a by omega)]; rfl
  · rw [cmpI_gt h, decide_eq_false (show ¬ a < b by omega)]; rfl
theorem sign_le0 {x : Int} : decide (x.sign ≤ 0) = decide (x ≤ 0) := by rw [← cmpI_sign, cmp_le0]
structure SpOk (x y v : Int) : Prop where
  v0 : 0 < v
  v1 : v ≤ 1237940039285380274899124224
  x0 : -(2199023255552 * v) ≤ x
  x1 : x ≤ 2199023255552 * v
  y0 : -(2199023255552 * v) ≤ y
  y1 : y ≤ 2199023255552 * v
theorem sp_ok {x y v : Int} (h : rspR x y v = true) : SpOk x y v := by
  unfold rspR at h
  rw [sign_le0, cmp_gt0, cmp_ge0, cmp_le0, cmp_ge0, cmp_le0] at h
  by_cases h0 : v ≤ 0
  · rw [decide_eq_true h0] at h; cases h
  · rw [decide_eq_false h0] at h
    by_cases h1 : 1237940039285380274899124224 < v
    · rw [decide_eq_true h1] at h; cases h
    · rw [decide_eq_false h1] at h
      by_cases h2 : -(2199023255552 * v) ≤ x
      · by_cases h3 : x ≤ 2199023255552 * v
        · by_cases h4 : -(2199023255552 * v) ≤ y
          · rw [decide_eq_true h2, decide_eq_true h3, decide_eq_true h4] at h
            exact ⟨by omega, by omega, h2, h3, h4, of_decide_eq_true h⟩
          · rw [decide_eq_true h2, decide_eq_true h3, decide_eq_false h4] at h; cases h
        · rw [decide_eq_true h2, decide_eq_false h3] at h; cases h
      · rw [decide_eq_false h2] at h; cases h
theorem ok_sp {x y v : Int} (h : SpOk x y v) : rspR x y v = true := by
  unfold rspR
  rw [sign_le0, cmp_gt0, cmp_ge0, cmp_le0, cmp_ge0, cmp_le0, decide_eq_false (show ¬ v ≤ 0 by have := h.v0; omega), decide_eq_false (show ¬ 1237940039285380274899124224 < v by have := h.v1; omega), decide_eq_true h.x0, decide_eq_true h.x1, decide_eq_true h.y0, decide_eq_true h.y1]
  rfl
theorem SpOk.xb {x y v : Int} (h : SpOk x y v) : -2722258935367507707706996859454145691648 ≤ x ∧ x ≤ 2722258935367507707706996859454145691648 := by
  have := h.v1; have := h.x0; have := h.x1; omega
theorem SpOk.yb {x y v : Int} (h : SpOk x y v) : -2722258935367507707706996859454145691648 ≤ y ∧ y ≤ 2722258935367507707706996859454145691648 := by
  have := h.v1; have := h.y0; have := h.y1; omega
theorem mulv_xv {x v : Int} (hx : -2722258935367507707706996859454145691648 ≤ x ∧ x ≤ 2722258935367507707706996859454145691648) (h0 : 0 < v) (h1 : v ≤ 1237940039285380274899124224) : mulv x v = x * v :=
  mulv_id (by have := mul_bd (by decide) hx (show -1237940039285380274899124224 ≤ v ∧ v ≤ 1237940039285380274899124224 by omega); unfold InI b255; omega)
theorem spC_eq {x y v x2 y2 v2 : Int} (h1 : rspR x y v = true) (h2 : rspR x2 y2 v2 = true) : spC x y v x2 y2 v2 = rspC x y v x2 y2 v2 := by
  have o1 := sp_ok h1
  have o2 := sp_ok h2
  unfold spC rspC
  rw [spR_eq, spR_eq, h1, h2, cond_true, cond_true, mulv_xv o1.xb o2.v0 o2.v1, mulv_xv o2.xb o1.v0 o1.v1, mulv_xv o1.yb o2.v0 o2.v1, mulv_xv o2.yb o1.v0 o1.v1]
  rfl
/-- a point's spot -/
theorem at_ok {x y : Int} (h : rp x y = true) : rspR x y 1 = true := by
  obtain ⟨h1, h2⟩ := rp_co h
  unfold Co at h1 h2
  exact ok_sp ⟨by omega, by omega, by omega, by omega, by omega, by omega⟩
theorem at_eqs {x y : Int} (h : rp x y = true) : atx x y = x ∧ aty x y = y ∧ atw x y = 1 := by unfold atx aty atw; rw [h]; exact ⟨rfl, rfl, rfl⟩
end Go.Proofs.Ytlcbomjdbdgbmaa

namespace Go.Proofs.Ytlcbomjdbdgbmaa
open Go.RowKit

theorem cmpP_lt0 (ax ay bx b_y : Int) : decide (cmpP ax ay bx b_y < 0) = ahd ax ay bx b_y := by
  unfold cmpP ahd or2
  rcases Int.lt_trichotomy ax bx with h | h | h
  · rw [cmpI_lt h, decide_eq_true h]; rfl
  · subst h
    rw [cmpI_eq, decide_eq_false (show ¬ ax < ax by omega), decide_eq_true (rfl : ax = ax), Bool.false_or, Bool.true_and]
    exact cmp_lt0
  · rw [cmpI_gt h, decide_eq_false (show ¬ ax < bx by omega), decide_eq_false (show ¬ ax = bx by omega)]; rfl
theorem ends_t {ax ay bx b_y : Int} (h : ahd bx b_y ax ay = true) : lwx ax ay bx b_y = bx ∧ lwy ax ay bx b_y = b_y ∧ hgx ax ay bx b_y = ax ∧ hgy ax ay bx b_y = ay := by
  unfold lwx lwy hgx hgy; rw [cmpP_lt0, h]; exact ⟨rfl, rfl, rfl, rfl⟩
theorem ends_f {ax ay bx b_y : Int} (h : ahd bx b_y ax ay = false) : lwx ax ay bx b_y = ax ∧ lwy ax ay bx b_y = ay ∧ hgx ax ay bx b_y = bx ∧ hgy ax ay bx b_y = b_y := by
  unfold lwx lwy hgx hgy; rw [cmpP_lt0, h]; exact ⟨rfl, rfl, rfl, rfl⟩
theorem ends_co {ax ay bx b_y : Int} (h : sgR ax ay bx b_y = true) : Co (lwx ax ay bx b_y) ∧ Co (lwy ax ay bx b_y) ∧ Co (hgx ax ay bx b_y) ∧ Co (hgy ax ay bx b_y) := by
  obtain ⟨h1, h2⟩ := sg_true h
  obtain ⟨a1, a2⟩ := rp_co h1
  obtain ⟨b1, b2⟩ := rp_co h2
  cases hh : ahd bx b_y ax ay
  · obtain ⟨e1, e2, e3, e4⟩ := ends_f hh; rw [e1, e2, e3, e4]; exact ⟨a1, a2, b1, b2⟩
  · obtain ⟨e1, e2, e3, e4⟩ := ends_t hh; rw [e1, e2, e3, e4]; exact ⟨b1, b2, a1, a2⟩
/-- a number of a spot, less a coordinate times its W -/
theorem part_bd {l y v : Int} (hl : Co l) (hy : -2722258935367507707706996859454145691648 ≤ y ∧ y ≤ 2722258935367507707706996859454145691648) (h0 : 0 < v) (h1 : v ≤ 1237940039285380274899124224) :
    subv y (mulv l v) = y - l * v ∧ -5444517870735015415413993718908291383296 ≤ y - l * v ∧ y - l * v ≤ 5444517870735015415413993718908291383296 := by
  have hb := mul_bd (a := 2199023255552) (b := 1237940039285380274899124224) (by decide) (show -2199023255552 ≤ l ∧ l ≤ 2199023255552 from hl) (show -1237940039285380274899124224 ≤ v ∧ v ≤ 1237940039285380274899124224 by omega)
  have e : mulv l v = l * v := mulv_id (by unfold InI b255; omega)
  rw [e]
  generalize l * v = p at *
  exact ⟨subv_id (by unfold InI b255; omega), by omega, by omega⟩
theorem side_ex {c d p q : Int} (hc : -4398046511104 ≤ c ∧ c ≤ 4398046511104) (hd : -4398046511104 ≤ d ∧ d ≤ 4398046511104)
    (hp : -5444517870735015415413993718908291383296 ≤ p ∧ p ≤ 5444517870735015415413993718908291383296) (hq : -5444517870735015415413993718908291383296 ≤ q ∧ q ≤ 5444517870735015415413993718908291383296) :
    subv (mulv c p) (mulv d q) = c * p - d * q := by
  have h1 := mul_bd (by decide) hc hp
  have h2 := mul_bd (by decide) hd hq
  rw [mulv_id (show InI (c * p) by unfold InI b255; omega), mulv_id (show InI (d * q) by unfold InI b255; omega)]
  generalize c * p = s at *
  generalize d * q = t at *
  exact subv_id (by unfold InI b255; omega)
theorem sde_eq {ax ay bx b_y x y v : Int} (hs : sgR ax ay bx b_y = true) (hp : rspR x y v = true) :
    sde ax ay bx b_y x y v = rsde (lwx ax ay bx b_y) (lwy ax ay bx b_y) (hgx ax ay bx b_y) (hgy ax ay bx b_y) x y v := by
  obtain ⟨c1, c2, c3, c4⟩ := ends_co hs
  have o := sp_ok hp
  obtain ⟨e1, b1⟩ := part_bd c2 o.yb o.v0 o.v1
  obtain ⟨e2, b2⟩ := part_bd c1 o.xb o.v0 o.v1
  unfold sde rsde
  rw [e1, e2]
  have w1 : wyx ax ay bx b_y = hgx ax ay bx b_y - lwx ax ay bx b_y := co_wrap c3 c1
  have w2 : wyy ax ay bx b_y = hgy ax ay bx b_y - lwy ax ay bx b_y := co_wrap c4 c2
  rw [w1, w2, co_wrap c3 c1, co_wrap c4 c2, side_ex (co_sub c3 c1) (co_sub c4 c2) b1 b2]
theorem rsde_turn {ax ay bx b_y x y v : Int} (h1 : Co ax) (h2 : Co ay) (h3 : Co bx) (h4 : Co b_y) : rsde bx b_y ax ay x y v = -rsde ax ay bx b_y x y v := by
  unfold rsde
  rw [co_wrap h1 h3, co_wrap h2 h4, co_wrap h3 h1, co_wrap h4 h2, ← Int.sign_neg]
  congr 1
  grind
theorem neg_eq0 (s : Int) : (-s == 0) = (s == 0) := by
  by_cases h : s = 0
  · subst h; rfl
  · rw [show (s == 0) = false by simpa using h, show (-s == 0) = false by simpa using h]
theorem hld_eq {ax ay bx b_y x y v : Int} (hs : sgR ax ay bx b_y = true) (hp : rspR x y v = true) : hldB ax ay bx b_y x y v = rhld ax ay bx b_y x y v := by
  obtain ⟨r1, r2⟩ := sg_true hs
  obtain ⟨a1, a2⟩ := rp_co r1
  obtain ⟨b1, b2⟩ := rp_co r2
  unfold hldB rhld
  rw [spR_eq, hs, hp, cond_true, cond_true, sde_eq hs hp]
  cases hh : ahd bx b_y ax ay
  · obtain ⟨e1, e2, e3, e4⟩ := ends_f hh
    rw [e1, e2, e3, e4, (at_eqs r1).1, (at_eqs r1).2.1, (at_eqs r1).2.2, (at_eqs r2).1, (at_eqs r2).2.1, (at_eqs r2).2.2, spC_eq (at_ok r1) hp, spC_eq hp (at_ok r2)]
    rfl
  · obtain ⟨e1, e2, e3, e4⟩ := ends_t hh
    rw [e1, e2, e3, e4, (at_eqs r1).1, (at_eqs r1).2.1, (at_eqs r1).2.2, (at_eqs r2).1, (at_eqs r2).2.1, (at_eqs r2).2.2, spC_eq (at_ok r2) hp, spC_eq hp (at_ok r1), rsde_turn a1 a2 b1 b2, neg_eq0]
    rfl
end Go.Proofs.Ytlcbomjdbdgbmaa

namespace Go.Proofs.Ytlcbomjdbdgbmaa
open Go.RowKit

theorem ahd_f {ax ay bx b_y : Int} (h : ahd ax ay bx b_y = false) : bx < ax ∨ ax = bx ∧ b_y ≤ ay := by
  unfold ahd at h; simp at h; omega
theorem ends_rev (ax ay bx b_y : Int) : lwx bx b_y ax ay = lwx ax ay bx b_y ∧ lwy bx b_y ax ay = lwy ax ay bx b_y ∧ hgx bx b_y ax ay = hgx ax ay bx b_y ∧ hgy bx b_y ax ay = hgy ax ay bx b_y := by
  cases h : ahd bx b_y ax ay
  · obtain ⟨e1, e2, e3, e4⟩ := ends_f h
    rw [e1, e2, e3, e4]
    cases h2 : ahd ax ay bx b_y
    · have g1 := ahd_f h
      have g2 := ahd_f h2
      obtain rfl : ax = bx := by omega
      obtain rfl : ay = b_y := by omega
      exact ends_f h
    · exact ends_t h2
  · obtain ⟨e1, e2, e3, e4⟩ := ends_t h
    rw [e1, e2, e3, e4]
    exact ends_f (ahd_asym h)
theorem sg_rev (ax ay bx b_y : Int) : sgR bx b_y ax ay = sgR ax ay bx b_y := by
  unfold sgR; cases rp ax ay <;> cases rp bx b_y <;> rfl
theorem dot_t {ax ay bx b_y : Int} (h : dotB ax ay bx b_y = true) : ax = bx ∧ ay = b_y := by
  unfold dotB at h
  by_cases h1 : ax = bx
  · by_cases h2 : ay = b_y
    · exact ⟨h1, h2⟩
    · simp [h1, h2] at h
  · simp [h1] at h
theorem dot_self (ax ay : Int) : dotB ax ay ax ay = true := by unfold dotB; simp
theorem dot_f {ax ay bx b_y : Int} (h : dotB ax ay bx b_y = false) : ¬(ax = bx ∧ ay = b_y) := by
  rintro ⟨rfl, rfl⟩; rw [dot_self] at h; cases h
theorem dot_rev (ax ay bx b_y : Int) : dotB bx b_y ax ay = dotB ax ay bx b_y := by
  cases h : dotB ax ay bx b_y
  · cases h2 : dotB bx b_y ax ay
    · rfl
    · obtain ⟨rfl, rfl⟩ := dot_t h2; rw [dot_self] at h; cases h
  · obtain ⟨rfl, rfl⟩ := dot_t h; exact dot_self _ _
theorem hold_rev (ax ay bx b_y x y v : Int) : hldB bx b_y ax ay x y v = hldB ax ay bx b_y x y v := by
  obtain ⟨e1, e2, e3, e4⟩ := ends_rev ax ay bx b_y
  simp only [hldB, sde, wyx, wyy, e1, e2, e3, e4, sg_rev ax ay bx b_y]
theorem way0_rev (ax ay bx b_y cx cy : Int) : (way bx b_y ax ay cx cy == 0) = (way ax ay bx b_y cx cy == 0) := by rw [way_swap, neg_eq0]

/-- the first segment told the other way -/
theorem mt_rev1 (ax ay bx b_y cx cy dx dy : Int) : mtk bx b_y ax ay cx cy dx dy = mtk ax ay bx b_y cx cy dx dy ∧ mtx bx b_y ax ay cx cy dx dy = mtx ax ay bx b_y cx cy dx dy ∧
    mty bx b_y ax ay cx cy dx dy = mty ax ay bx b_y cx cy dx dy ∧ mtw bx b_y ax ay cx cy dx dy = mtw ax ay bx b_y cx cy dx dy := by
  cases hd : dotB ax ay bx b_y
  · obtain ⟨e1, e2, e3, e4⟩ := ends_rev ax ay bx b_y
    have hd' : dotB bx b_y ax ay = false := (dot_rev ax ay bx b_y).trans hd
    have y1 : wyx bx b_y ax ay = wyx ax ay bx b_y := by unfold wyx; rw [e1, e3]
    have y2 : wyy bx b_y ax ay = wyy ax ay bx b_y := by unfold wyy; rw [e2, e4]
    have s1 : slp bx b_y ax ay cx cy dx dy = slp ax ay bx b_y cx cy dx dy := by simp only [slp, wyx, wyy, e1, e2, e3, e4, sg_rev ax ay bx b_y]
    have k1 : shk bx b_y ax ay cx cy dx dy = shk ax ay bx b_y cx cy dx dy := by simp only [shk, e1, e2, e3, e4]
    have k2 : shx bx b_y ax ay cx cy dx dy = shx ax ay bx b_y cx cy dx dy := by simp only [shx, e1, e2, e3, e4]
    have k3 : shy bx b_y ax ay cx cy dx dy = shy ax ay bx b_y cx cy dx dy := by simp only [shy, e1, e2, e3, e4]
    have k4 : shw bx b_y ax ay cx cy dx dy = shw ax ay bx b_y cx cy dx dy := by simp only [shw, e1, e2, e3, e4]
    have c1 : cgx bx b_y ax ay cx cy dx dy = cgx ax ay bx b_y cx cy dx dy := by unfold cgx; rw [y1, y2, e1, e2]
    have c2 : cgy bx b_y ax ay cx cy dx dy = cgy ax ay bx b_y cx cy dx dy := by unfold cgy; rw [y1, y2, e1, e2]
    have c3 : cgw bx b_y ax ay cx cy dx dy = cgw ax ay bx b_y cx cy dx dy := by unfold cgw; rw [y1, y2]
    refine ⟨?_, ?_, ?_, ?_⟩ <;>
      simp only [mtk, mtx, mty, mtw, sg_rev ax ay bx b_y, hd, hd', hold_rev ax ay bx b_y, s1, k1, k2, k3, k4, c1, c2, c3, way0_rev ax ay bx b_y, cond_false]
  · obtain ⟨rfl, rfl⟩ := dot_t hd
    exact ⟨rfl, rfl, rfl, rfl⟩

/-- of parallel ones both ends of the one lie alike to the other -/
theorem par_way {ax ay bx b_y cx cy dx dy : Int} (h1 : sgR ax ay bx b_y = true) (h2 : sgR cx cy dx dy = true) (h : (slp ax ay bx b_y cx cy dx dy == 0) = true) :
    way ax ay bx b_y dx dy = way ax ay bx b_y cx cy := by
  rw [slp_eq h1 h2] at h
  obtain ⟨a, b⟩ := sg_true h1
  obtain ⟨c, d⟩ := sg_true h2
  have h0 : wyx cx cy dx dy * wyy ax ay bx b_y - wyy cx cy dx dy * wyx ax ay bx b_y = 0 := Int.sign_eq_zero_iff_zero.1 (by simpa using h)
  have key : (dx - cx) * (b_y - ay) = (dy - cy) * (bx - ax) := by
    unfold wyx wyy at h0
    obtain ⟨p1, p2, p3, p4⟩ := ends_co h1
    obtain ⟨q1, q2, q3, q4⟩ := ends_co h2
    rw [co_wrap p3 p1, co_wrap p4 p2, co_wrap q3 q1, co_wrap q4 q2] at h0
    cases g1 : ahd bx b_y ax ay
    · obtain ⟨e1, e2, e3, e4⟩ := ends_f g1
      cases g2 : ahd dx dy cx cy
      · obtain ⟨f1, f2, f3, f4⟩ := ends_f g2
        rw [e1, e2, e3, e4, f1, f2, f3, f4] at h0; grind
      · obtain ⟨f1, f2, f3, f4⟩ := ends_t g2
        rw [e1, e2, e3, e4, f1, f2, f3, f4] at h0; grind
    · obtain ⟨e1, e2, e3, e4⟩ := ends_t g1
      cases g2 : ahd dx dy cx cy
      · obtain ⟨f1, f2, f3, f4⟩ := ends_f g2
        rw [e1, e2, e3, e4, f1, f2, f3, f4] at h0; grind
      · obtain ⟨f1, f2, f3, f4⟩ := ends_t g2
        rw [e1, e2, e3, e4, f1, f2, f3, f4] at h0; grind
  have t : trn ax ay bx b_y dx dy = trn ax ay bx b_y cx cy := by unfold trn; grind
  unfold way rp3
  rw [a, b, c, d, t]

/-- the second segment told the other way -/
theorem mt_rev2 (ax ay bx b_y cx cy dx dy : Int) : mtk ax ay bx b_y dx dy cx cy = mtk ax ay bx b_y cx cy dx dy ∧ mtx ax ay bx b_y dx dy cx cy = mtx ax ay bx b_y cx cy dx dy ∧
    mty ax ay bx b_y dx dy cx cy = mty ax ay bx b_y cx cy dx dy ∧ mtw ax ay bx b_y dx dy cx cy = mtw ax ay bx b_y cx cy dx dy := by
  cases hd : dotB cx cy dx dy
  · obtain ⟨e1, e2, e3, e4⟩ := ends_rev cx cy dx dy
    have hd' : dotB dx dy cx cy = false := (dot_rev cx cy dx dy).trans hd
    cases r1 : sgR ax ay bx b_y
    · refine ⟨?_, ?_, ?_, ?_⟩ <;> simp only [mtk, mtx, mty, mtw, r1, cond_false]
    cases r2 : sgR cx cy dx dy
    · have r2' : sgR dx dy cx cy = false := (sg_rev cx cy dx dy).trans r2
      refine ⟨?_, ?_, ?_, ?_⟩ <;> simp only [mtk, mtx, mty, mtw, r1, r2, r2', cond_false]
    have r2' : sgR dx dy cx cy = true := (sg_rev cx cy dx dy).trans r2
    have y1 : wyx dx dy cx cy = wyx cx cy dx dy := by unfold wyx; rw [e1, e3]
    have y2 : wyy dx dy cx cy = wyy cx cy dx dy := by unfold wyy; rw [e2, e4]
    have s1 : slp ax ay bx b_y dx dy cx cy = slp ax ay bx b_y cx cy dx dy := by simp only [slp, wyx, wyy, e1, e2, e3, e4, sg_rev cx cy dx dy]
    have k1 : shk ax ay bx b_y dx dy cx cy = shk ax ay bx b_y cx cy dx dy := by simp only [shk, e1, e2, e3, e4]
    have k2 : shx ax ay bx b_y dx dy cx cy = shx ax ay bx b_y cx cy dx dy := by simp only [shx, e1, e2, e3, e4]
    have k3 : shy ax ay bx b_y dx dy cx cy = shy ax ay bx b_y cx cy dx dy := by simp only [shy, e1, e2, e3, e4]
    have k4 : shw ax ay bx b_y dx dy cx cy = shw ax ay bx b_y cx cy dx dy := by simp only [shw, e1, e2, e3, e4]
    have c1 : cgx ax ay bx b_y dx dy cx cy = cgx ax ay bx b_y cx cy dx dy := by unfold cgx; rw [y1, y2, e1, e2]
    have c2 : cgy ax ay bx b_y dx dy cx cy = cgy ax ay bx b_y cx cy dx dy := by unfold cgy; rw [y1, y2, e1, e2]
    have c3 : cgw ax ay bx b_y dx dy cx cy = cgw ax ay bx b_y cx cy dx dy := by unfold cgw; rw [y1, y2]
    cases hs : (slp ax ay bx b_y cx cy dx dy == 0)
    · refine ⟨?_, ?_, ?_, ?_⟩ <;>
        simp only [mtk, mtx, mty, mtw, r1, r2, r2', hd, hd', hold_rev cx cy dx dy, s1, hs, c1, c2, c3, cond_false, cond_true]
    · have w1 := par_way r1 r2 hs
      refine ⟨?_, ?_, ?_, ?_⟩ <;>
        simp only [mtk, mtx, mty, mtw, r1, r2, r2', hd, hd', hold_rev cx cy dx dy, s1, hs, k1, k2, k3, k4, w1, cond_false, cond_true]
  · obtain ⟨rfl, rfl⟩ := dot_t hd
    exact ⟨rfl, rfl, rfl, rfl⟩

end Go.Proofs.Ytlcbomjdbdgbmaa

namespace Go.Proofs.Ytlcbomjdbdgbmaa
open Go.RowKit

theorem gWay_is (ax ay bx b_y cx cy r : Int) (h : way ax ay bx b_y cx cy = r) (w : World) :
    Calls Try.prog 74 #[pI ax ay, pI bx b_y, pI cx cy] w fun e w' => e = .returned (.int .i64 r) ∧ Below w.heap.size w w' := h ▸ Way_any ax ay bx b_y cx cy w
/-- do two segments cross within both? -/
def fac (ax ay bx b_y cx cy dx dy : Int) : Bool := decide (way ax ay bx b_y cx cy * way ax ay bx b_y dx dy < 0) && decide (way cx cy dx dy ax ay * way cx cy dx dy bx b_y < 0)
def S3 (x : Int) : Prop := x = -1 ∨ x = 0 ∨ x = 1
theorem S3.wrap {x : Int} (hx : S3 x) : wrap64 x = x := by
  unfold S3 at *
  rcases hx with rfl | rfl | rfl <;> unfold wrap64 <;> omega
set_option maxRecDepth 100000 in
set_option maxHeartbeats 2000000 in
theorem rFac_go (ax ay bx b_y cx cy dx dy x y z u X Y : Int) (g t : Bool) (hx : way ax ay bx b_y cx cy = x) (hy : way ax ay bx b_y dx dy = y) (hz : way cx cy dx dy ax ay = z) (hu : way cx cy dx dy bx b_y = u)
    (hX : wrap64 (x * y) = X) (hY : wrap64 (z * u) = Y) (hg : decide (X < 0) = g) (ht : decide (Y < 0) = t) (v : World) :
    Calls Try.prog 104 #[pI ax ay, pI bx b_y, pI cx cy, pI dx dy] v fun e w' => e = .returned (.bool (g && t)) ∧ Below v.heap.size v w' := by
  have H1 := Lib.hid hx
  have H2 := Lib.hid hy
  have H3 := Lib.hid hz
  have H4 := Lib.hid hu
  have HX := Lib.hid hX
  have HY := Lib.hid hY
  clear hx hy hz hu hX hY
  cases g
  · have hx0 : ¬X < 0 := by simpa using hg
    go_enter Try.func104, Try.ntmps104
    go_wp2_with fail
    first | refine calls_w ?_ | refine name_world ?_
    intro W hW
    have ka : QVar W (v.heap.size) ax ay := by rw [hW]; exact (Blk.new v _ _) |>.alloc _ |>.alloc _ |>.alloc _
    have kb : QVar W (v.heap.size + 1) bx b_y := by rw [hW]; exact (Blk.new1 v _ _ _) |>.alloc _ |>.alloc _
    have kc : QVar W (v.heap.size + 1 + 1) cx cy := by rw [hW]; exact (Blk.new2 v _ _ _ _) |>.alloc _
    have kd : QVar W (v.heap.size + 1 + 1 + 1) dx dy := by rw [hW]; exact (Blk.new3 v _ _ _ _ _)
    have hb0 : Below v.heap.size v W := by rw [hW]; exact (below_a3 _ _ _ _).alloc (by simp; omega) _
    clear hW
    have ca := QVar.c ka
    have la := ka.lt
    have cb := QVar.c kb
    have lb := kb.lt
    have cc := QVar.c kc
    have lc := kc.lt
    have cd := QVar.c kd
    have ld := kd.lt
    have hX := HX.out
    have KA := Lib.hid ka
    have KB := Lib.hid kb
    have KC := Lib.hid kc
    have KD := Lib.hid kd
    clear ka kb kc kd
    refine wp_region_up W.heap.size 18 [(true, 0), (true, 1), (true, 2), (true, 4), (true, 5), (true, 6), (false, 3), (false, 7), (true, 8), (true, 9), (true, 10), (true, 11), (true, 12), (true, 13), (true, 15), (true, 16), (true, 17), (false, 14)] (by kernel_rfl) (by kernel_rfl) (fun _ _ d _ _ h => by cases d <;> exact h) ?_
    have hb : Below W.heap.size W W.drew := (Below.refl _ _).drew
    iterate 6
      refine wpS_takeL rfl rfl ?_
      go_big_quiet_step (rfl)
      refine wpQuiet_nil ?_
    refine wpS_doL rfl ?_
    intro K hK
    go_wp2_with ((first | (go_at_call 74; (with_reducible refine (gWay_is ax ay bx b_y cx cy x H1.out _).mono ?_); rintro e w2 ⟨rfl, hn⟩) | (go_at_call 74; (with_reducible refine (gWay_is ax ay bx b_y dx dy y H2.out _).mono ?_); rintro e w2 ⟨rfl, hn⟩) | (go_at_call 74; (with_reducible refine (gWay_is cx cy dx dy ax ay z H3.out _).mono ?_); rintro e w2 ⟨rfl, hn⟩)))
    replace hb := hb.trans (hn.mono hb.size)
    refine hK.out _ _ (up_iff.2 hb) ?_
    clear hK K
    clear hn
    refine wpS_doL rfl ?_
    intro K hK
    go_wp2_with ((first | (go_at_call 74; (with_reducible refine (gWay_is ax ay bx b_y cx cy x H1.out _).mono ?_); rintro e w2 ⟨rfl, hn⟩) | (go_at_call 74; (with_reducible refine (gWay_is ax ay bx b_y dx dy y H2.out _).mono ?_); rintro e w2 ⟨rfl, hn⟩) | (go_at_call 74; (with_reducible refine (gWay_is cx cy dx dy ax ay z H3.out _).mono ?_); rintro e w2 ⟨rfl, hn⟩)))
    replace hb := hb.trans (hn.mono hb.size)
    refine hK.out _ _ (up_iff.2 hb) ?_
    clear hK K
    clear hn
    iterate 9
      refine wpS_takeL rfl rfl ?_
      go_big_quiet_step (rfl)
      refine wpQuiet_nil ?_
    refine wpS_doL rfl ?_
    intro K hK
    go_wp2_with ((first | (go_at_call 74; (with_reducible refine (gWay_is ax ay bx b_y cx cy x H1.out _).mono ?_); rintro e w2 ⟨rfl, hn⟩) | (go_at_call 74; (with_reducible refine (gWay_is ax ay bx b_y dx dy y H2.out _).mono ?_); rintro e w2 ⟨rfl, hn⟩) | (go_at_call 74; (with_reducible refine (gWay_is cx cy dx dy ax ay z H3.out _).mono ?_); rintro e w2 ⟨rfl, hn⟩)))
    try replace hb := hb.trans (hn.mono hb.size)
    refine hK.out _ _ (up_iff.2 hb) ?_
    clear hK K
    try clear hn
    refine wpS_nil ?_
    simp only [List.drop_succ_cons, List.drop_zero]
    replace hb0 := hb0.trans (hb.mono hb0.size)
    clear hb KA KB KC KD ca cb cc cd la lb lc ld
    go_wp2
    go_ret
    exact ⟨rfl, hb0⟩
  · have hx0 : X < 0 := by simpa using hg
    go_enter Try.func104, Try.ntmps104
    go_wp2_with fail
    first | refine calls_w ?_ | refine name_world ?_
    intro W hW
    have ka : QVar W (v.heap.size) ax ay := by rw [hW]; exact (Blk.new v _ _) |>.alloc _ |>.alloc _ |>.alloc _
    have kb : QVar W (v.heap.size + 1) bx b_y := by rw [hW]; exact (Blk.new1 v _ _ _) |>.alloc _ |>.alloc _
    have kc : QVar W (v.heap.size + 1 + 1) cx cy := by rw [hW]; exact (Blk.new2 v _ _ _ _) |>.alloc _
    have kd : QVar W (v.heap.size + 1 + 1 + 1) dx dy := by rw [hW]; exact (Blk.new3 v _ _ _ _ _)
    have hb0 : Below v.heap.size v W := by rw [hW]; exact (below_a3 _ _ _ _).alloc (by simp; omega) _
    clear hW
    have ca := QVar.c ka
    have la := ka.lt
    have cb := QVar.c kb
    have lb := kb.lt
    have cc := QVar.c kc
    have lc := kc.lt
    have cd := QVar.c kd
    have ld := kd.lt
    have hX := HX.out
    have KA := Lib.hid ka
    have KB := Lib.hid kb
    have KC := Lib.hid kc
    have KD := Lib.hid kd
    clear ka kb kc kd
    refine wp_region_up W.heap.size 18 [(true, 0), (true, 1), (true, 2), (true, 4), (true, 5), (true, 6), (false, 3), (false, 7), (true, 8), (true, 9), (true, 10), (true, 11), (true, 12), (true, 13), (true, 15), (true, 16), (true, 17), (false, 14)] (by kernel_rfl) (by kernel_rfl) (fun _ _ d _ _ h => by cases d <;> exact h) ?_
    have hb : Below W.heap.size W W.drew := (Below.refl _ _).drew
    iterate 6
      refine wpS_takeL rfl rfl ?_
      go_big_quiet_step (rfl)
      refine wpQuiet_nil ?_
    refine wpS_doL rfl ?_
    intro K hK
    go_wp2_with ((first | (go_at_call 74; (with_reducible refine (gWay_is ax ay bx b_y cx cy x H1.out _).mono ?_); rintro e w2 ⟨rfl, hn⟩) | (go_at_call 74; (with_reducible refine (gWay_is ax ay bx b_y dx dy y H2.out _).mono ?_); rintro e w2 ⟨rfl, hn⟩) | (go_at_call 74; (with_reducible refine (gWay_is cx cy dx dy ax ay z H3.out _).mono ?_); rintro e w2 ⟨rfl, hn⟩)))
    replace hb := hb.trans (hn.mono hb.size)
    refine hK.out _ _ (up_iff.2 hb) ?_
    clear hK K
    clear hn
    refine wpS_doL rfl ?_
    intro K hK
    go_wp2_with ((first | (go_at_call 74; (with_reducible refine (gWay_is ax ay bx b_y cx cy x H1.out _).mono ?_); rintro e w2 ⟨rfl, hn⟩) | (go_at_call 74; (with_reducible refine (gWay_is ax ay bx b_y dx dy y H2.out _).mono ?_); rintro e w2 ⟨rfl, hn⟩) | (go_at_call 74; (with_reducible refine (gWay_is cx cy dx dy ax ay z H3.out _).mono ?_); rintro e w2 ⟨rfl, hn⟩)))
    replace hb := hb.trans (hn.mono hb.size)
    refine hK.out _ _ (up_iff.2 hb) ?_
    clear hK K
    clear hn
    iterate 9
      refine wpS_takeL rfl rfl ?_
      go_big_quiet_step (rfl)
      refine wpQuiet_nil ?_
    refine wpS_doL rfl ?_
    intro K hK
    go_wp2_with ((first | (go_at_call 74; (with_reducible refine (gWay_is ax ay bx b_y cx cy x H1.out _).mono ?_); rintro e w2 ⟨rfl, hn⟩) | (go_at_call 74; (with_reducible refine (gWay_is ax ay bx b_y dx dy y H2.out _).mono ?_); rintro e w2 ⟨rfl, hn⟩) | (go_at_call 74; (with_reducible refine (gWay_is cx cy dx dy ax ay z H3.out _).mono ?_); rintro e w2 ⟨rfl, hn⟩)))
    try replace hb := hb.trans (hn.mono hb.size)
    refine hK.out _ _ (up_iff.2 hb) ?_
    clear hK K
    try clear hn
    refine wpS_nil ?_
    simp only [List.drop_succ_cons, List.drop_zero]
    replace hb0 := hb0.trans (hb.mono hb0.size)
    clear hb KA KB KC KD ca cb cc cd la lb lc ld
    go_wp2_with fail
    refine (gWay_is cx cy dx dy bx b_y u H4.out _).mono ?_
    rintro e u1 ⟨rfl, hn⟩
    replace hb0 := hb0.trans (hn.mono hb0.size)
    clear hn 
    have hY := HY.out
    clear HX HY H1 H2 H3 H4
    cases t
    · have hy0 : ¬Y < 0 := by simpa using ht
      go_wp2
      go_ret
      exact ⟨rfl, hb0⟩
    · have hy0 : Y < 0 := by simpa using ht
      go_wp2
      go_ret
      exact ⟨rfl, hb0⟩
theorem rFac_any (ax ay bx b_y cx cy dx dy : Int) (v : World) :
    Calls Try.prog 104 #[pI ax ay, pI bx b_y, pI cx cy, pI dx dy] v fun e w' => e = .returned (.bool (fac ax ay bx b_y cx cy dx dy)) ∧ Below v.heap.size v w' :=
  rFac_go ax ay bx b_y cx cy dx dy _ _ _ _ _ _ _ _ rfl rfl rfl rfl (wrap_ways _ _ _ _ _ _ _ _ _ _ _ _) (wrap_ways _ _ _ _ _ _ _ _ _ _ _ _) rfl rfl v

end Go.Proofs.Ytlcbomjdbdgbmaa

namespace Go.Proofs.Ytlcbomjdbdgbmaa
open Go.RowKit

/-- the document's walk over the four ends -/
def rm : Option (Int × Int) → List (Bool × Int × Int) → Bool → Int
  | none, [], f => bif f then 1 else 0
  | some _, [], _ => 1
  | s, (false, _, _) :: l, f => rm s l f
  | none, (true, x, y) :: l, f => rm (some (x, y)) l f
  | some (u, v), (true, x, y) :: l, f => bif (u == x && v == y) then rm (some (u, v)) l f else 2
/-- the document's answer -/
def rmt (ax ay bx b_y cx cy dx dy : Int) : Int :=
  rm none [(onB ax ay bx b_y ax ay && onB cx cy dx dy ax ay, ax, ay), (onB ax ay bx b_y bx b_y && onB cx cy dx dy bx b_y, bx, b_y), (onB ax ay bx b_y cx cy && onB cx cy dx dy cx cy, cx, cy), (onB ax ay bx b_y dx dy && onB cx cy dx dy dx dy, dx, dy)] (fac ax ay bx b_y cx cy dx dy)
theorem rm_none (A B C D : Bool) (ax ay bx b_y cx cy dx dy : Int) (f : Bool) (hA : A = false) (hB : B = false) (hC : C = false) (hD : D = false) :
    rm none [(A, ax, ay), (B, bx, b_y), (C, cx, cy), (D, dx, dy)] f = bif f then 1 else 0 := by subst hA; subst hB; subst hC; subst hD; rfl
theorem rm_one (A B C D : Bool) (ax ay bx b_y cx cy dx dy qx qy : Int) (f : Bool) (h : A = true ∨ B = true ∨ C = true ∨ D = true)
    (hA : A = true → ax = qx ∧ ay = qy) (hB : B = true → bx = qx ∧ b_y = qy) (hC : C = true → cx = qx ∧ cy = qy) (hD : D = true → dx = qx ∧ dy = qy) :
    rm none [(A, ax, ay), (B, bx, b_y), (C, cx, cy), (D, dx, dy)] f = 1 := by
  cases A <;> cases B <;> cases C <;> cases D <;> simp_all [rm]
theorem rm_two (A B C D : Bool) (ax ay bx b_y cx cy dx dy px py qx qy : Int) (f : Bool) (hn : ¬(px = qx ∧ py = qy))
    (hp : (A = true ∧ ax = px ∧ ay = py) ∨ (B = true ∧ bx = px ∧ b_y = py) ∨ (C = true ∧ cx = px ∧ cy = py) ∨ (D = true ∧ dx = px ∧ dy = py))
    (hq : (A = true ∧ ax = qx ∧ ay = qy) ∨ (B = true ∧ bx = qx ∧ b_y = qy) ∨ (C = true ∧ cx = qx ∧ cy = qy) ∨ (D = true ∧ dx = qx ∧ dy = qy)) :
    rm none [(A, ax, ay), (B, bx, b_y), (C, cx, cy), (D, dx, dy)] f = 2 := by
  have key : ∀ (u v x y : Int), (u == x && v == y) = decide (u = x ∧ v = y) := fun u v x y => by
    by_cases h : u = x <;> by_cases g : v = y <;> simp [h, g]
  cases A <;> cases B <;> cases C <;> cases D <;> simp only [rm, key] <;> grind
theorem rm_swap (A B C D : Bool) (ax ay bx b_y cx cy dx dy : Int) (f : Bool) :
    rm none [(C, cx, cy), (D, dx, dy), (A, ax, ay), (B, bx, b_y)] f = rm none [(A, ax, ay), (B, bx, b_y), (C, cx, cy), (D, dx, dy)] f := by
  have key : ∀ (u v x y : Int), (u == x && v == y) = decide (u = x ∧ v = y) := fun u v x y => by
    by_cases h : u = x <;> by_cases g : v = y <;> simp [h, g]
  cases A <;> cases B <;> cases C <;> cases D <;> simp only [rm, key] <;> grind
theorem rm_swap1 (A B C D : Bool) (ax ay bx b_y cx cy dx dy : Int) (f : Bool) :
    rm none [(B, bx, b_y), (A, ax, ay), (C, cx, cy), (D, dx, dy)] f = rm none [(A, ax, ay), (B, bx, b_y), (C, cx, cy), (D, dx, dy)] f := by
  have key : ∀ (u v x y : Int), (u == x && v == y) = decide (u = x ∧ v = y) := fun u v x y => by
    by_cases h : u = x <;> by_cases g : v = y <;> simp [h, g]
  cases A <;> cases B <;> cases C <;> cases D <;> simp only [rm, key] <;> grind
theorem way_neg_lt (x y : Int) : decide (-x * -y < 0) = decide (x * y < 0) := by rw [Int.neg_mul_neg]
theorem fac_comm (ax ay bx b_y cx cy dx dy : Int) : fac cx cy dx dy ax ay bx b_y = fac ax ay bx b_y cx cy dx dy := by unfold fac; rw [Bool.and_comm]
theorem fac_rev (ax ay bx b_y cx cy dx dy : Int) : fac bx b_y ax ay cx cy dx dy = fac ax ay bx b_y cx cy dx dy := by
  unfold fac; rw [way_swap ax ay bx b_y cx cy, way_swap ax ay bx b_y dx dy, way_neg_lt, Int.mul_comm (way cx cy dx dy bx b_y)]
theorem rmt_comm (ax ay bx b_y cx cy dx dy : Int) : rmt cx cy dx dy ax ay bx b_y = rmt ax ay bx b_y cx cy dx dy := by
  unfold rmt
  rw [← rm_swap, fac_comm, Bool.and_comm (onB ax ay bx b_y ax ay), Bool.and_comm (onB ax ay bx b_y bx b_y), Bool.and_comm (onB ax ay bx b_y cx cy), Bool.and_comm (onB ax ay bx b_y dx dy)]
theorem rmt_rev1 (ax ay bx b_y cx cy dx dy : Int) : rmt bx b_y ax ay cx cy dx dy = rmt ax ay bx b_y cx cy dx dy := by
  unfold rmt
  rw [← rm_swap1, fac_rev, onB_swap ax ay bx b_y ax ay, onB_swap ax ay bx b_y bx b_y, onB_swap ax ay bx b_y cx cy, onB_swap ax ay bx b_y dx dy]
theorem rmt_rev2 (ax ay bx b_y cx cy dx dy : Int) : rmt ax ay bx b_y dx dy cx cy = rmt ax ay bx b_y cx cy dx dy := by
  rw [rmt_comm, rmt_rev1, rmt_comm]
end Go.Proofs.Ytlcbomjdbdgbmaa

namespace Go.Proofs.Ytlcbomjdbdgbmaa
open Go.RowKit

theorem rspC_le {X Y V X2 Y2 V2 : Int} : decide (rspC X Y V X2 Y2 V2 ≤ 0) = decide (X * V2 < X2 * V ∨ X * V2 = X2 * V ∧ Y * V2 ≤ Y2 * V) := by
  unfold rspC
  rcases Int.lt_trichotomy (X * V2) (X2 * V) with h | h | h
  · rw [cmpI_lt h, decide_eq_true (Or.inl h : X * V2 < X2 * V ∨ X * V2 = X2 * V ∧ Y * V2 ≤ Y2 * V)]; rfl
  · rw [h, cmpI_eq]
    show decide (cmpI (Y * V2) (Y2 * V) ≤ 0) = _
    rw [cmp_le0]; congr 1; apply propext; omega
  · rw [cmpI_gt h, decide_eq_false (show ¬(X * V2 < X2 * V ∨ X * V2 = X2 * V ∧ Y * V2 ≤ Y2 * V) by omega)]; rfl
/-- a spot on a segment whose ends stand in order -/
def Hd (ax ay bx b_y X Y V : Int) : Prop :=
  (bx - ax) * (Y - ay * V) - (b_y - ay) * (X - ax * V) = 0 ∧ (ax * V < X ∨ ax * V = X ∧ ay * V ≤ Y) ∧ (X < bx * V ∨ X = bx * V ∧ Y ≤ b_y * V)
instance (ax ay bx b_y X Y V : Int) : Decidable (Hd ax ay bx b_y X Y V) := by unfold Hd; exact inferInstance
theorem rhld_hd {ax ay bx b_y X Y V : Int} (h : sgR ax ay bx b_y = true) (hl : ahd bx b_y ax ay = false) : rhld ax ay bx b_y X Y V = decide (Hd ax ay bx b_y X Y V) := by
  obtain ⟨r1, r2⟩ := sg_true h
  obtain ⟨a1, a2⟩ := rp_co r1
  obtain ⟨b1, b2⟩ := rp_co r2
  unfold rhld rsde rAtx rAty rAtw
  rw [hl, cond_false, co_wrap b1 a1, co_wrap b2 a2, rspC_le, rspC_le, Int.mul_one, Int.mul_one]
  by_cases h0 : (bx - ax) * (Y - ay * V) - (b_y - ay) * (X - ax * V) = 0
  · rw [h0]
    by_cases h1 : ax * V < X ∨ ax * V = X ∧ ay * V ≤ Y
    · by_cases h2 : X < bx * V ∨ X = bx * V ∧ Y ≤ b_y * V
      · rw [decide_eq_true h1, decide_eq_true h2, decide_eq_true (show Hd ax ay bx b_y X Y V from ⟨h0, h1, h2⟩), Int.sign_zero]; rfl
      · rw [decide_eq_true h1, decide_eq_false h2, decide_eq_false (show ¬ Hd ax ay bx b_y X Y V from fun k => h2 k.2.2), Int.sign_zero]; rfl
    · rw [decide_eq_false h1, decide_eq_false (show ¬ Hd ax ay bx b_y X Y V from fun k => h1 k.2.1), Int.sign_zero]; rfl
  · rw [decide_eq_false (show ¬ Hd ax ay bx b_y X Y V from fun e => h0 e.1), show (((bx - ax) * (Y - ay * V) - (b_y - ay) * (X - ax * V)).sign == 0) = false by simpa using fun e => h0 (Int.sign_eq_zero_iff_zero.1 e)]
    rfl
theorem onB_hd {ax ay bx b_y px py V : Int} (h : sgR ax ay bx b_y = true) (hl : ahd bx b_y ax ay = false) (hp : rp px py = true) (hV : 0 < V) : onB ax ay bx b_y px py = decide (Hd ax ay bx b_y (px * V) (py * V) V) := by
  obtain ⟨r1, r2⟩ := sg_true h
  rw [onB_lex, hl]
  have h3 : rp3 ax ay bx b_y px py = true := by unfold rp3; rw [r1, r2, hp]; rfl
  unfold way lexB ahd
  rw [h3, cond_true, cond_false, Bool.true_and]
  have e1 : (bx - ax) * (py * V - ay * V) - (b_y - ay) * (px * V - ax * V) = trn ax ay bx b_y px py * V := by unfold trn; grind
  have e2 : (trn ax ay bx b_y px py * V = 0) ↔ trn ax ay bx b_y px py = 0 := by
    rw [Int.mul_eq_zero]; omega
  have m1 : ∀ x y : Int, x * V < y * V ↔ x < y := fun x y => ⟨fun h => Int.lt_of_mul_lt_mul_right h (by omega), fun h => Int.mul_lt_mul_of_pos_right h hV⟩
  have m2 : ∀ x y : Int, x * V = y * V ↔ x = y := fun x y => ⟨fun h => Int.eq_of_mul_eq_mul_right (by omega) h, fun h => by rw [h]⟩
  have m3 : ∀ x y : Int, x * V ≤ y * V ↔ x ≤ y := fun x y => ⟨fun h => Int.le_of_mul_le_mul_right h hV, fun h => Int.mul_le_mul_of_nonneg_right h (by omega)⟩
  have hd : Hd ax ay bx b_y (px * V) (py * V) V ↔ trn ax ay bx b_y px py = 0 ∧ (ax < px ∨ ax = px ∧ ay ≤ py) ∧ (px < bx ∨ px = bx ∧ py ≤ b_y) := by
    unfold Hd; rw [e1, e2, m1, m2, m3, m1, m2, m3]
  rw [Bool.eq_iff_iff, decide_eq_true_eq, hd]
  simp [Int.sign_eq_zero_iff_zero]
  omega
/-- the ends stand in order, and are not one -/
def Lx (ax ay bx b_y : Int) : Prop := ax < bx ∨ ax = bx ∧ ay < b_y
theorem lx_of {ax ay bx b_y : Int} (hl : ahd bx b_y ax ay = false) (hd : dotB ax ay bx b_y = false) : Lx ax ay bx b_y := by
  have h1 := ahd_f hl
  have h2 := dot_f hd
  unfold Lx; omega
theorem lx_nn {sx sy n : Int} (h : 0 < sx ∨ 0 = sx ∧ 0 < sy) : (0 < sx * n ∨ 0 = sx * n ∧ 0 ≤ sy * n) ↔ 0 ≤ n := by
  rcases h with h | ⟨h, g⟩
  · constructor
    · rintro (k | ⟨k, _⟩)
      · exact Int.le_of_lt (Int.pos_of_mul_pos_right k h)
      · rcases Int.mul_eq_zero.1 k.symm with e | e <;> omega
    · intro k
      by_cases e : n = 0
      · right; rw [e]; simp
      · left; exact Int.mul_pos h (by omega)
  · subst h
    simp only [Int.zero_mul, Int.lt_irrefl, false_or, true_and]
    constructor
    · intro k; exact Int.le_of_mul_le_mul_left (by simpa using k) g
    · intro k; exact Int.mul_nonneg (by omega) k
/-- a spot on the line, by its part of the way -/
theorem hd_part {ax ay bx b_y X Y V n : Int} (hl : Lx ax ay bx b_y) (hx : X = ax * V + (bx - ax) * n) (hy : Y = ay * V + (b_y - ay) * n) :
    Hd ax ay bx b_y X Y V ↔ 0 ≤ n ∧ n ≤ V := by
  have h : 0 < bx - ax ∨ 0 = bx - ax ∧ 0 < b_y - ay := by unfold Lx at hl; omega
  have k1 := lx_nn (n := n) h
  have k2 := lx_nn (n := V - n) h
  have e0 : (bx - ax) * (Y - ay * V) - (b_y - ay) * (X - ax * V) = 0 := by rw [hx, hy]; grind
  have e1 : bx * V - X = (bx - ax) * (V - n) := by rw [hx]; grind
  have e2 : b_y * V - Y = (b_y - ay) * (V - n) := by rw [hy]; grind
  unfold Hd
  rw [e0]
  rw [← e1, ← e2] at k2
  have f1 : X - ax * V = (bx - ax) * n := by omega
  have f2 : Y - ay * V = (b_y - ay) * n := by omega
  rw [← f1, ← f2] at k1
  constructor
  · rintro ⟨_, p, q⟩; exact ⟨k1.1 (by omega), by have := k2.1 (by omega); omega⟩
  · rintro ⟨p, q⟩
    have p := k1.2 p
    have q := k2.2 (by omega)
    exact ⟨rfl, by omega, by omega⟩
theorem sign_mul_neg (u v : Int) : u.sign * v.sign < 0 ↔ (u < 0 ∧ 0 < v) ∨ (0 < u ∧ v < 0) := by
  rcases Int.lt_trichotomy u 0 with h | h | h
  · rw [Int.sign_eq_neg_one_of_neg h]
    rcases Int.lt_trichotomy v 0 with g | g | g
    · rw [Int.sign_eq_neg_one_of_neg g]; omega
    · rw [g, Int.sign_zero]; omega
    · rw [Int.sign_eq_one_of_pos g]; omega
  · rw [h, Int.sign_zero]; omega
  · rw [Int.sign_eq_one_of_pos h]
    rcases Int.lt_trichotomy v 0 with g | g | g
    · rw [Int.sign_eq_neg_one_of_neg g]; omega
    · rw [g, Int.sign_zero]; omega
    · rw [Int.sign_eq_one_of_pos g]; omega
/-- two spots on both are one -/
def Only (ax ay bx b_y cx cy dx dy : Int) : Prop := ∀ X Y V X2 Y2 V2 : Int, 0 < V → 0 < V2 → Hd ax ay bx b_y X Y V → Hd cx cy dx dy X Y V → Hd ax ay bx b_y X2 Y2 V2 → Hd cx cy dx dy X2 Y2 V2 → X * V2 = X2 * V ∧ Y * V2 = Y2 * V
end Go.Proofs.Ytlcbomjdbdgbmaa

namespace Go.Proofs.Ytlcbomjdbdgbmaa
open Go.RowKit

theorem only_other {ax ay bx b_y cx cy dx dy : Int} (h : (bx - ax) * (dy - cy) - (b_y - ay) * (dx - cx) ≠ 0) : Only ax ay bx b_y cx cy dx dy := by
  rintro X Y V X2 Y2 V2 hV hV2 ⟨a1, _⟩ ⟨b1, _⟩ ⟨a2, _⟩ ⟨b2, _⟩
  generalize bx - ax = sx at *
  generalize b_y - ay = sy at *
  generalize dx - cx = tx at *
  generalize dy - cy = ty at *
  have e1 : sx * (Y * V2 - Y2 * V) = sy * (X * V2 - X2 * V) := by grind
  have e2 : tx * (Y * V2 - Y2 * V) = ty * (X * V2 - X2 * V) := by grind
  obtain ⟨Z, hZ⟩ : ∃ Z, Y * V2 - Y2 * V = Z := ⟨_, rfl⟩
  rw [hZ] at e1 e2
  obtain ⟨U, hU⟩ : ∃ U, X * V2 - X2 * V = U := ⟨_, rfl⟩
  rw [hU] at e1 e2
  have z1 : (sx * ty - sy * tx) * U = 0 := by grind
  have z2 : (sx * ty - sy * tx) * Z = 0 := by grind
  have u0 := (Int.mul_eq_zero.1 z1).resolve_left h
  have v0 := (Int.mul_eq_zero.1 z2).resolve_left h
  subst u0
  omega

/-- the heart of it: the place is told by its parts of both ways -/
theorem cross_core {ax ay bx b_y cx cy dx dy X Y W n m : Int} (h1 : sgR ax ay bx b_y = true) (h2 : sgR cx cy dx dy = true) (l1 : Lx ax ay bx b_y) (l2 : Lx cx cy dx dy) (hW : 0 < W)
    (x1 : X = ax * W + (bx - ax) * n) (y1 : Y = ay * W + (b_y - ay) * n) (x2 : X = cx * W + (dx - cx) * m) (y2 : Y = cy * W + (dy - cy) * m)
    (ta : trn cx cy dx dy ax ay = 0 ↔ n = 0) (tb : trn cx cy dx dy bx b_y = 0 ↔ n = W) (tc : trn ax ay bx b_y cx cy = 0 ↔ m = 0) (td : trn ax ay bx b_y dx dy = 0 ↔ m = W)
    (hf : fac ax ay bx b_y cx cy dx dy = decide ((0 < n ∧ n < W) ∧ 0 < m ∧ m < W)) :
    rmt ax ay bx b_y cx cy dx dy = if (0 ≤ n ∧ n ≤ W) ∧ 0 ≤ m ∧ m ≤ W then 1 else 0 := by
  have hl1 : ahd bx b_y ax ay = false := by unfold ahd; unfold Lx at l1; simp; omega
  have hl2 : ahd dx dy cx cy = false := by unfold ahd; unfold Lx at l2; simp; omega
  obtain ⟨ra, rb⟩ := sg_true h1
  obtain ⟨rc, rd⟩ := sg_true h2
  have p1 := hd_part l1 x1 y1
  have p2 := hd_part l2 x2 y2
  -- where each end lies
  have oa : (onB ax ay bx b_y ax ay && onB cx cy dx dy ax ay) = decide (n = 0 ∧ 0 ≤ m ∧ m ≤ W) := by
    rw [onB_end, ra, rb, Bool.and_self, Bool.true_and]
    by_cases e : n = 0
    · rw [onB_hd h2 hl2 ra hW, ← show X = ax * W by rw [x1, e]; simp, ← show Y = ay * W by rw [y1, e]; simp]
      congr 1; apply propext; rw [p2]; simp [e]
    · rw [decide_eq_false (fun k => e k.1), onB_lex]
      have : (way cx cy dx dy ax ay == 0) = false := by
        unfold way rp3; rw [rc, rd, ra]; simpa using fun k => e (ta.1 (Int.sign_eq_zero_iff_zero.1 k))
      rw [this]; simp
  have ob : (onB ax ay bx b_y bx b_y && onB cx cy dx dy bx b_y) = decide (n = W ∧ 0 ≤ m ∧ m ≤ W) := by
    rw [← onB_swap ax ay bx b_y, onB_end, ra, rb, Bool.and_self, Bool.true_and]
    by_cases e : n = W
    · rw [onB_hd h2 hl2 rb hW, ← show X = bx * W by rw [x1, e]; grind, ← show Y = b_y * W by rw [y1, e]; grind]
      congr 1; apply propext; rw [p2]; simp [e]
    · rw [decide_eq_false (fun k => e k.1), onB_lex]
      have : (way cx cy dx dy bx b_y == 0) = false := by
        unfold way rp3; rw [rc, rd, rb]; simpa using fun k => e (tb.1 (Int.sign_eq_zero_iff_zero.1 k))
      rw [this]; simp
  have oc : (onB ax ay bx b_y cx cy && onB cx cy dx dy cx cy) = decide (m = 0 ∧ 0 ≤ n ∧ n ≤ W) := by
    rw [onB_end, rc, rd, Bool.and_self, Bool.and_true]
    by_cases e : m = 0
    · rw [onB_hd h1 hl1 rc hW, ← show X = cx * W by rw [x2, e]; simp, ← show Y = cy * W by rw [y2, e]; simp]
      congr 1; apply propext; rw [p1]; simp [e]
    · rw [decide_eq_false (fun k => e k.1), onB_lex]
      have : (way ax ay bx b_y cx cy == 0) = false := by
        unfold way rp3; rw [rc, ra, rb]; simpa using fun k => e (tc.1 (Int.sign_eq_zero_iff_zero.1 k))
      rw [this]; simp
  have od : (onB ax ay bx b_y dx dy && onB cx cy dx dy dx dy) = decide (m = W ∧ 0 ≤ n ∧ n ≤ W) := by
    rw [← onB_swap cx cy dx dy, onB_end, rc, rd, Bool.and_self, Bool.and_true]
    by_cases e : m = W
    · rw [onB_hd h1 hl1 rd hW, ← show X = dx * W by rw [x2, e]; grind, ← show Y = dy * W by rw [y2, e]; grind]
      congr 1; apply propext; rw [p1]; simp [e]
    · rw [decide_eq_false (fun k => e k.1), onB_lex]
      have : (way ax ay bx b_y dx dy == 0) = false := by
        unfold way rp3; rw [rd, ra, rb]; simpa using fun k => e (td.1 (Int.sign_eq_zero_iff_zero.1 k))
      rw [this]; simp
  unfold rmt
  rw [oa, ob, oc, od, hf]
  have one : ∀ px py qx qy : Int, px * W = qx * W → py * W = qy * W → px = qx ∧ py = qy := fun px py qx qy k1 k2 =>
    ⟨Int.eq_of_mul_eq_mul_right (by omega) k1, Int.eq_of_mul_eq_mul_right (by omega) k2⟩
  by_cases k : (n = 0 ∧ 0 ≤ m ∧ m ≤ W) ∨ (n = W ∧ 0 ≤ m ∧ m ≤ W) ∨ (m = 0 ∧ 0 ≤ n ∧ n ≤ W) ∨ (m = W ∧ 0 ≤ n ∧ n ≤ W)
  · rw [if_pos (by omega)]
    -- all that lie on both are the place
    have hq : ∃ qx qy, qx * W = X ∧ qy * W = Y := by
      rcases k with ⟨e, _⟩ | ⟨e, _⟩ | ⟨e, _⟩ | ⟨e, _⟩
      · exact ⟨ax, ay, by rw [x1, e]; simp, by rw [y1, e]; simp⟩
      · exact ⟨bx, b_y, by rw [x1, e]; grind, by rw [y1, e]; grind⟩
      · exact ⟨cx, cy, by rw [x2, e]; simp, by rw [y2, e]; simp⟩
      · exact ⟨dx, dy, by rw [x2, e]; grind, by rw [y2, e]; grind⟩
    obtain ⟨qx, qy, e1, e2⟩ := hq
    refine rm_one _ _ _ _ _ _ _ _ _ _ _ _ qx qy _ (by simpa only [decide_eq_true_eq] using k) ?_ ?_ ?_ ?_
    · intro h; have h := of_decide_eq_true h; exact one _ _ _ _ (by rw [e1, x1, h.1]; simp) (by rw [e2, y1, h.1]; simp)
    · intro h; have h := of_decide_eq_true h; exact one _ _ _ _ (by rw [e1, x1, h.1]; grind) (by rw [e2, y1, h.1]; grind)
    · intro h; have h := of_decide_eq_true h; exact one _ _ _ _ (by rw [e1, x2, h.1]; simp) (by rw [e2, y2, h.1]; simp)
    · intro h; have h := of_decide_eq_true h; exact one _ _ _ _ (by rw [e1, x2, h.1]; grind) (by rw [e2, y2, h.1]; grind)
  · rw [rm_none _ _ _ _ _ _ _ _ _ _ _ _ _ (decide_eq_false (by omega)) (decide_eq_false (by omega)) (decide_eq_false (by omega)) (decide_eq_false (by omega))]
    by_cases g : (0 ≤ n ∧ n ≤ W) ∧ 0 ≤ m ∧ m ≤ W
    · rw [if_pos g, decide_eq_true (by omega)]; rfl
    · rw [if_neg g, decide_eq_false (by omega)]; rfl
end Go.Proofs.Ytlcbomjdbdgbmaa

namespace Go.Proofs.Ytlcbomjdbdgbmaa
open Go.RowKit

/-- the turn of two ways -/
def w0 (ax ay bx b_y cx cy dx dy : Int) : Int := (bx - ax) * (dy - cy) - (b_y - ay) * (dx - cx)
def n0 (ax ay _bx _b_y cx cy dx dy : Int) : Int := (cx - ax) * (dy - cy) - (cy - ay) * (dx - cx)
def m0 (ax ay bx b_y cx cy _dx _dy : Int) : Int := (cx - ax) * (b_y - ay) - (cy - ay) * (bx - ax)
theorem turn_bd {s t u v : Int} (hs : -4398046511104 ≤ s ∧ s ≤ 4398046511104) (ht : -4398046511104 ≤ t ∧ t ≤ 4398046511104) (hu : -4398046511104 ≤ u ∧ u ≤ 4398046511104) (hv : -4398046511104 ≤ v ∧ v ≤ 4398046511104) :
    subv (mulv s t) (mulv u v) = s * t - u * v ∧ -38685626227668133590597632 ≤ s * t - u * v ∧ s * t - u * v ≤ 38685626227668133590597632 := by
  have a := mul_bd (by decide) hs ht
  have b := mul_bd (by decide) hu hv
  rw [mulv_id (show InI (s * t) by unfold InI b255; omega), mulv_id (show InI (u * v) by unfold InI b255; omega)]
  generalize s * t = p at *
  generalize u * v = q at *
  exact ⟨subv_id (by unfold InI b255; omega), by omega, by omega⟩
theorem place_ex {a s p q : Int} (ha : Co a) (hs : -4398046511104 ≤ s ∧ s ≤ 4398046511104) (hp : -38685626227668133590597632 ≤ p ∧ p ≤ 38685626227668133590597632) (hq : -38685626227668133590597632 ≤ q ∧ q ≤ 38685626227668133590597632) :
    addv (mulv a p) (mulv s q) = a * p + s * q := by
  have h1 := mul_bd (a := 2199023255552) (by decide) (show -2199023255552 ≤ a ∧ a ≤ 2199023255552 from ha) hp
  have h2 := mul_bd (by decide) hs hq
  rw [mulv_id (show InI (a * p) by unfold InI b255; omega), mulv_id (show InI (s * q) by unfold InI b255; omega)]
  generalize a * p = u at *
  generalize s * q = v at *
  exact addv_id (by unfold InI b255; omega)
theorem sign_lt0 (x : Int) : decide (x.sign < 0) = decide (x < 0) := by
  rcases Int.lt_trichotomy x 0 with h | h | h
  · rw [Int.sign_eq_neg_one_of_neg h, decide_eq_true h]; rfl
  · rw [h]; rfl
  · rw [Int.sign_eq_one_of_pos h, decide_eq_false (show ¬ x < 0 by omega)]; rfl
def ab (w x : Int) : Int := if w < 0 then -x else x
theorem cg_eq {ax ay bx b_y cx cy dx dy : Int} (h1 : sgR ax ay bx b_y = true) (h2 : sgR cx cy dx dy = true) (hl1 : ahd bx b_y ax ay = false) (hl2 : ahd dx dy cx cy = false) :
    cgx ax ay bx b_y cx cy dx dy = ax * ab (w0 ax ay bx b_y cx cy dx dy) (w0 ax ay bx b_y cx cy dx dy) + (bx - ax) * ab (w0 ax ay bx b_y cx cy dx dy) (n0 ax ay bx b_y cx cy dx dy) ∧
    cgy ax ay bx b_y cx cy dx dy = ay * ab (w0 ax ay bx b_y cx cy dx dy) (w0 ax ay bx b_y cx cy dx dy) + (b_y - ay) * ab (w0 ax ay bx b_y cx cy dx dy) (n0 ax ay bx b_y cx cy dx dy) ∧
    cgw ax ay bx b_y cx cy dx dy = ab (w0 ax ay bx b_y cx cy dx dy) (w0 ax ay bx b_y cx cy dx dy) ∧ -38685626227668133590597632 ≤ w0 ax ay bx b_y cx cy dx dy ∧ w0 ax ay bx b_y cx cy dx dy ≤ 38685626227668133590597632 := by
  obtain ⟨ra, rb⟩ := sg_true h1
  obtain ⟨rc, rd⟩ := sg_true h2
  obtain ⟨a1, a2⟩ := rp_co ra
  obtain ⟨b1, b2⟩ := rp_co rb
  obtain ⟨c1, c2⟩ := rp_co rc
  obtain ⟨d1, d2⟩ := rp_co rd
  obtain ⟨e1, e2, e3, e4⟩ := ends_f hl1
  obtain ⟨f1, f2, f3, f4⟩ := ends_f hl2
  have y1 : wyx ax ay bx b_y = bx - ax := by unfold wyx; rw [e1, e3]; exact co_wrap b1 a1
  have y2 : wyy ax ay bx b_y = b_y - ay := by unfold wyy; rw [e2, e4]; exact co_wrap b2 a2
  have y3 : wyx cx cy dx dy = dx - cx := by unfold wyx; rw [f1, f3]; exact co_wrap d1 c1
  have y4 : wyy cx cy dx dy = dy - cy := by unfold wyy; rw [f2, f4]; exact co_wrap d2 c2
  obtain ⟨t1, t2⟩ := turn_bd (co_sub b1 a1) (co_sub d2 c2) (co_sub b2 a2) (co_sub d1 c1)
  obtain ⟨t3, t4⟩ := turn_bd (co_sub c1 a1) (co_sub d2 c2) (co_sub c2 a2) (co_sub d1 c1)
  unfold cgx cgy cgw
  rw [y1, y2, y3, y4, e1, e2, f1, f2, co_wrap c1 a1, co_wrap c2 a2, t1, t3, sign_lt0]
  unfold ab
  rw [show (bx - ax) * (dy - cy) - (b_y - ay) * (dx - cx) = w0 ax ay bx b_y cx cy dx dy from rfl] at t2 ⊢
  rw [show (cx - ax) * (dy - cy) - (cy - ay) * (dx - cx) = n0 ax ay bx b_y cx cy dx dy from rfl] at t4 ⊢
  generalize w0 ax ay bx b_y cx cy dx dy = w at *
  generalize n0 ax ay bx b_y cx cy dx dy = n at *
  have s1 : subv 0 w = -w := by rw [subv_id (by unfold InI b255; omega)]; omega
  have s2 : subv 0 n = -n := by rw [subv_id (by unfold InI b255; omega)]; omega
  rw [s1, s2]
  by_cases h : w < 0
  · rw [decide_eq_true h, if_pos h, if_pos h]
    refine ⟨?_, ?_, rfl, t2⟩
    · exact place_ex a1 (co_sub b1 a1) (by omega) (by omega)
    · exact place_ex a2 (co_sub b2 a2) (by omega) (by omega)
  · rw [decide_eq_false h, if_neg h, if_neg h]
    refine ⟨?_, ?_, rfl, t2⟩
    · exact place_ex a1 (co_sub b1 a1) t2 t4
    · exact place_ex a2 (co_sub b2 a2) t2 t4
theorem slp_w0 {ax ay bx b_y cx cy dx dy : Int} (h1 : sgR ax ay bx b_y = true) (h2 : sgR cx cy dx dy = true) (hl1 : ahd bx b_y ax ay = false) (hl2 : ahd dx dy cx cy = false) :
    (slp ax ay bx b_y cx cy dx dy == 0) = decide (w0 ax ay bx b_y cx cy dx dy = 0) := by
  obtain ⟨ra, rb⟩ := sg_true h1
  obtain ⟨rc, rd⟩ := sg_true h2
  obtain ⟨a1, a2⟩ := rp_co ra
  obtain ⟨b1, b2⟩ := rp_co rb
  obtain ⟨c1, c2⟩ := rp_co rc
  obtain ⟨d1, d2⟩ := rp_co rd
  obtain ⟨e1, e2, e3, e4⟩ := ends_f hl1
  obtain ⟨f1, f2, f3, f4⟩ := ends_f hl2
  have y1 : wyx ax ay bx b_y = bx - ax := by unfold wyx; rw [e1, e3]; exact co_wrap b1 a1
  have y2 : wyy ax ay bx b_y = b_y - ay := by unfold wyy; rw [e2, e4]; exact co_wrap b2 a2
  have y3 : wyx cx cy dx dy = dx - cx := by unfold wyx; rw [f1, f3]; exact co_wrap d1 c1
  have y4 : wyy cx cy dx dy = dy - cy := by unfold wyy; rw [f2, f4]; exact co_wrap d2 c2
  rw [slp_eq h1 h2, y1, y2, y3, y4]
  have e : (dx - cx) * (b_y - ay) - (dy - cy) * (bx - ax) = -w0 ax ay bx b_y cx cy dx dy := by unfold w0; grind
  rw [e, Int.sign_neg, neg_eq0, Bool.eq_iff_iff]
  simp [Int.sign_eq_zero_iff_zero]
/-- segments that go other ways -/
theorem meet_cross {ax ay bx b_y cx cy dx dy : Int} (h1 : sgR ax ay bx b_y = true) (h2 : sgR cx cy dx dy = true) (hl1 : ahd bx b_y ax ay = false) (hl2 : ahd dx dy cx cy = false)
    (g1 : dotB ax ay bx b_y = false) (g2 : dotB cx cy dx dy = false) (hw : w0 ax ay bx b_y cx cy dx dy ≠ 0) :
    let X := cgx ax ay bx b_y cx cy dx dy; let Y := cgy ax ay bx b_y cx cy dx dy; let W := cgw ax ay bx b_y cx cy dx dy
    0 < W ∧ rmt ax ay bx b_y cx cy dx dy = (if Hd ax ay bx b_y X Y W ∧ Hd cx cy dx dy X Y W then 1 else 0) ∧ (Hd ax ay bx b_y X Y W → rspR X Y W = true) := by
  obtain ⟨q1, q2, q3, q4⟩ := cg_eq h1 h2 hl1 hl2
  have l1 := lx_of hl1 g1
  have l2 := lx_of hl2 g2
  obtain ⟨ra, rb⟩ := sg_true h1
  obtain ⟨rc, rd⟩ := sg_true h2
  obtain ⟨a1, a2⟩ := rp_co ra
  obtain ⟨b1, b2⟩ := rp_co rb
  intro X Y W
  have hW : 0 < W := by show 0 < cgw _ _ _ _ _ _ _ _; rw [q3]; unfold ab; split <;> omega
  obtain ⟨n, hn⟩ : ∃ n, ab (w0 ax ay bx b_y cx cy dx dy) (n0 ax ay bx b_y cx cy dx dy) = n := ⟨_, rfl⟩
  obtain ⟨m, hm⟩ : ∃ m, ab (w0 ax ay bx b_y cx cy dx dy) (m0 ax ay bx b_y cx cy dx dy) = m := ⟨_, rfl⟩
  have eW : ab (w0 ax ay bx b_y cx cy dx dy) (w0 ax ay bx b_y cx cy dx dy) = W := q3.symm
  have x1 : X = ax * W + (bx - ax) * n := by rw [← eW, ← hn]; exact q1
  have y1 : Y = ay * W + (b_y - ay) * n := by rw [← eW, ← hn]; exact q2
  have x2 : X = cx * W + (dx - cx) * m := by
    rw [x1, ← eW, ← hn, ← hm]; unfold ab; split <;> (unfold w0 n0 m0; grind)
  have y2 : Y = cy * W + (dy - cy) * m := by
    rw [y1, ← eW, ← hn, ← hm]; unfold ab; split <;> (unfold w0 n0 m0; grind)
  have u1 : trn cx cy dx dy ax ay = n0 ax ay bx b_y cx cy dx dy := by unfold trn n0; grind
  have u2 : trn cx cy dx dy bx b_y = n0 ax ay bx b_y cx cy dx dy - w0 ax ay bx b_y cx cy dx dy := by unfold trn n0 w0; grind
  have u3 : trn ax ay bx b_y cx cy = -m0 ax ay bx b_y cx cy dx dy := by unfold trn m0; grind
  have u4 : trn ax ay bx b_y dx dy = w0 ax ay bx b_y cx cy dx dy - m0 ax ay bx b_y cx cy dx dy := by unfold trn m0 w0; grind
  have p1 := hd_part l1 x1 y1
  have p2 := hd_part l2 x2 y2
  have fc : fac ax ay bx b_y cx cy dx dy = decide ((0 < n ∧ n < W) ∧ 0 < m ∧ m < W) := by
    unfold fac way rp3
    rw [ra, rb, rc, rd]
    simp only [Bool.and_self, cond_true]
    rw [u1, u2, u3, u4, Bool.eq_iff_iff]
    simp only [Bool.and_eq_true, decide_eq_true_eq, sign_mul_neg]
    rw [← eW, ← hn, ← hm]
    unfold ab
    generalize w0 ax ay bx b_y cx cy dx dy = w at *
    generalize n0 ax ay bx b_y cx cy dx dy = n at *
    generalize m0 ax ay bx b_y cx cy dx dy = m at *
    split <;> omega
  refine ⟨hW, ?_, ?_⟩
  · rw [cross_core h1 h2 l1 l2 hW x1 y1 x2 y2 ?_ ?_ ?_ ?_ fc]
    · congr 1; apply propext; rw [p1, p2]
    · rw [u1, ← hn]; unfold ab; split <;> omega
    · rw [u2, ← hn, ← eW]; unfold ab; split <;> omega
    · rw [u3, ← hm]; unfold ab; split <;> omega
    · rw [u4, ← hm, ← eW]; unfold ab; split <;> omega
  · intro h
    obtain ⟨k1, k2⟩ := p1.1 h
    have bW : W ≤ 38685626227668133590597632 := by rw [← eW]; unfold ab; split <;> omega
    have ex : X = ax * (W - n) + bx * n := by rw [x1]; grind
    have ey : Y = ay * (W - n) + b_y * n := by rw [y1]; grind
    have bd : ∀ c u : Int, Co c → 0 ≤ u → -(2199023255552 * u) ≤ c * u ∧ c * u ≤ 2199023255552 * u := fun c u hc hu => by
      have m1 := Int.mul_le_mul_of_nonneg_right hc.1 hu
      have m2 := Int.mul_le_mul_of_nonneg_right hc.2 hu
      omega
    have z1 := bd ax (W - n) a1 (by omega)
    have z2 := bd bx n b1 k1
    have z3 := bd ay (W - n) a2 (by omega)
    have z4 := bd b_y n b2 k1
    exact ok_sp ⟨hW, by omega, by rw [ex]; omega, by rw [ex]; omega, by rw [ey]; omega, by rw [ey]; omega⟩
end Go.Proofs.Ytlcbomjdbdgbmaa

namespace Go.Proofs.Ytlcbomjdbdgbmaa
open Go.RowKit

theorem rm_not {A B C D : Bool} {ax ay bx b_y cx cy dx dy : Int} {f : Bool} (hA : A = false) (hB : B = false) (hC : C = false) (hD : D = false) (hf : f = false) :
    rm none [(A, ax, ay), (B, bx, b_y), (C, cx, cy), (D, dx, dy)] f = 0 := by rw [rm_none _ _ _ _ _ _ _ _ _ _ _ _ _ hA hB hC hD, hf]; rfl
theorem onB_pt {ax ay px py : Int} (h : onB ax ay ax ay px py = true) : px = ax ∧ py = ay := by
  rw [onB_lex] at h
  have a0 : ahd ax ay ax ay = false := by unfold ahd; simp
  rw [a0] at h
  unfold lexB at h
  simp only [Bool.and_eq_true, cond_false, Bool.not_eq_true'] at h
  have h1 := ahd_f h.2.1
  have h2 := ahd_f h.2.2
  omega
theorem way_pt (ax ay cx cy : Int) : way ax ay ax ay cx cy = 0 := by
  unfold way trn; rw [show (ax - ax) * (cy - ay) - (ay - ay) * (cx - ax) = 0 by grind]; cases rp3 ax ay ax ay cx cy <;> rfl
/-- a point and a segment -/
theorem rmt_dot {ax ay cx cy dx dy : Int} (h1 : rp ax ay = true) (h2 : sgR cx cy dx dy = true) : rmt ax ay ax ay cx cy dx dy = bif onB cx cy dx dy ax ay then 1 else 0 := by
  obtain ⟨rc, rd⟩ := sg_true h2
  have oa : onB ax ay ax ay ax ay = true := by rw [onB_end, h1]; rfl
  have oc : onB cx cy dx dy cx cy = true := by rw [onB_end, rc, rd]; rfl
  have od : onB cx cy dx dy dx dy = true := by rw [← onB_swap, onB_end, rc, rd]; rfl
  have hf : fac ax ay ax ay cx cy dx dy = false := by unfold fac; rw [way_pt, Int.zero_mul]; rfl
  unfold rmt
  rw [oa, oc, od, Bool.true_and, Bool.and_true, Bool.and_true]
  cases g : onB cx cy dx dy ax ay
  · refine rm_not rfl rfl ?_ ?_ hf
    · cases k : onB ax ay ax ay cx cy
      · rfl
      · obtain ⟨rfl, rfl⟩ := onB_pt k; rw [oc] at g; cases g
    · cases k : onB ax ay ax ay dx dy
      · rfl
      · obtain ⟨rfl, rfl⟩ := onB_pt k; rw [od] at g; cases g
  · refine rm_one _ _ _ _ _ _ _ _ _ _ _ _ ax ay _ (.inl rfl) (fun _ => ⟨rfl, rfl⟩) (fun _ => ⟨rfl, rfl⟩) (fun k => onB_pt k) (fun k => onB_pt k)
/-- a right point lies on a segment, as the program says it -/
theorem hold_pt {ax ay bx b_y px py : Int} (h1 : sgR ax ay bx b_y = true) (hl : ahd bx b_y ax ay = false) (hp : rp px py = true) :
    hldB ax ay bx b_y (atx px py) (aty px py) (atw px py) = onB ax ay bx b_y px py ∧ (onB ax ay bx b_y px py = true → Hd ax ay bx b_y px py 1) := by
  obtain ⟨e1, e2, e3⟩ := at_eqs hp
  have k := onB_hd (V := 1) h1 hl hp (by decide)
  rw [Int.mul_one, Int.mul_one] at k
  rw [e1, e2, e3, hld_eq h1 (at_ok hp), rhld_hd h1 hl, k]
  exact ⟨rfl, of_decide_eq_true⟩
theorem hd_dot {ax ay X Y V : Int} (h : Hd ax ay ax ay X Y V) : X = ax * V ∧ Y = ay * V := by
  obtain ⟨_, h1, h2⟩ := h; omega
theorem hd_own {ax ay : Int} : Hd ax ay ax ay ax ay 1 := by unfold Hd; refine ⟨by grind, by omega, by omega⟩
theorem only_dot {ax ay cx cy dx dy : Int} : Only ax ay ax ay cx cy dx dy := by
  rintro X Y V X2 Y2 V2 _ _ h1 _ h2 _
  obtain ⟨rfl, rfl⟩ := hd_dot h1
  obtain ⟨rfl, rfl⟩ := hd_dot h2
  exact ⟨by grind, by grind⟩
theorem only_comm {ax ay bx b_y cx cy dx dy : Int} (h : Only ax ay bx b_y cx cy dx dy) : Only cx cy dx dy ax ay bx b_y :=
  fun X Y V X2 Y2 V2 a b c d e f => h X Y V X2 Y2 V2 a b d c f e

/-- parallel ones on two lines -/
theorem zero_of {tx ty m : Int} (h : tx ≠ 0 ∨ ty ≠ 0) (h1 : tx * m = 0) (h2 : ty * m = 0) : m = 0 := by
  rcases h with h | h
  · exact (Int.mul_eq_zero.1 h1).resolve_left h
  · exact (Int.mul_eq_zero.1 h2).resolve_left h
theorem lx_ne {ax ay bx b_y : Int} (h : Lx ax ay bx b_y) : bx - ax ≠ 0 ∨ b_y - ay ≠ 0 := by unfold Lx at h; omega
theorem par_m {ax ay bx b_y cx cy dx dy : Int} (l : Lx cx cy dx dy) (hw : w0 ax ay bx b_y cx cy dx dy = 0) (hn : n0 ax ay bx b_y cx cy dx dy = 0) : m0 ax ay bx b_y cx cy dx dy = 0 := by
  refine zero_of (lx_ne l) ?_ ?_ <;> (unfold w0 at hw; unfold n0 at hn; unfold m0; grind)
theorem par_n {ax ay bx b_y cx cy dx dy : Int} (l : Lx ax ay bx b_y) (hw : w0 ax ay bx b_y cx cy dx dy = 0) (hm : m0 ax ay bx b_y cx cy dx dy = 0) : n0 ax ay bx b_y cx cy dx dy = 0 := by
  refine zero_of (lx_ne l) ?_ ?_ <;> (unfold w0 at hw; unfold m0 at hm; unfold n0; grind)
theorem turn4 (ax ay bx b_y cx cy dx dy : Int) : trn cx cy dx dy ax ay = n0 ax ay bx b_y cx cy dx dy ∧ trn cx cy dx dy bx b_y = n0 ax ay bx b_y cx cy dx dy - w0 ax ay bx b_y cx cy dx dy ∧
    trn ax ay bx b_y cx cy = -m0 ax ay bx b_y cx cy dx dy ∧ trn ax ay bx b_y dx dy = w0 ax ay bx b_y cx cy dx dy - m0 ax ay bx b_y cx cy dx dy := by
  refine ⟨?_, ?_, ?_, ?_⟩
  · unfold trn n0; grind
  · unfold trn n0 w0; grind
  · unfold trn m0; grind
  · unfold trn m0 w0; grind
theorem onB_way {ax ay bx b_y px py : Int} (h : onB ax ay bx b_y px py = true) : trn ax ay bx b_y px py = 0 := by
  unfold onB at h; simp only [Bool.and_eq_true] at h; exact Int.sign_eq_zero_iff_zero.1 (by simpa using h.1.1.2)
theorem meet_far {ax ay bx b_y cx cy dx dy : Int} (h1 : sgR ax ay bx b_y = true) (h2 : sgR cx cy dx dy = true) (l2 : Lx cx cy dx dy)
    (hw : w0 ax ay bx b_y cx cy dx dy = 0) (hm : m0 ax ay bx b_y cx cy dx dy ≠ 0) : rmt ax ay bx b_y cx cy dx dy = 0 := by
  obtain ⟨t1, t2, t3, t4⟩ := turn4 ax ay bx b_y cx cy dx dy
  obtain ⟨ra, rb⟩ := sg_true h1
  obtain ⟨rc, rd⟩ := sg_true h2
  have no : ∀ {x y : Bool}, ¬(x = true ∧ y = true) → (x && y) = false := fun {x y} h => by
    cases x <;> cases y <;> first | rfl | exact absurd ⟨rfl, rfl⟩ h
  refine rm_not (no fun ⟨_, k⟩ => hm (par_m l2 hw ?_)) (no fun ⟨_, k⟩ => hm (par_m l2 hw ?_)) (no fun ⟨k, _⟩ => hm ?_) (no fun ⟨k, _⟩ => hm ?_) ?_
  · have := onB_way k; omega
  · have := onB_way k; omega
  · have := onB_way k; omega
  · have := onB_way k; omega
  · unfold fac way rp3
    rw [ra, rb, rc, rd]
    simp only [Bool.and_self, cond_true]
    rw [t3, t4, hw, Int.zero_sub, decide_eq_false]
    · rfl
    · rw [sign_mul_neg]; omega
/-- those on one line -/
theorem cmpP_if (ax ay bx b_y : Int) : cmpP ax ay bx b_y = if ax < bx ∨ ax = bx ∧ ay < b_y then -1 else if ax = bx ∧ ay = b_y then 0 else 1 := by
  unfold cmpP or2
  rcases Int.lt_trichotomy ax bx with h | h | h
  · rw [cmpI_lt h, if_pos (.inl h)]; rfl
  · subst h
    rw [cmpI_eq]
    rcases Int.lt_trichotomy ay b_y with g | g | g
    · rw [cmpI_lt g, if_pos (.inr ⟨rfl, g⟩)]; rfl
    · subst g; rw [cmpI_eq, if_neg (by omega), if_pos ⟨rfl, rfl⟩]; rfl
    · rw [cmpI_gt g, if_neg (by omega), if_neg (by omega)]; rfl
  · rw [cmpI_gt h, if_neg (by omega), if_neg (by omega)]; rfl
theorem onB_line {ax ay bx b_y px py : Int} (h : sgR ax ay bx b_y = true) (hl : ahd bx b_y ax ay = false) (hp : rp px py = true) (ht : trn ax ay bx b_y px py = 0) :
    onB ax ay bx b_y px py = decide ((ax < px ∨ ax = px ∧ ay ≤ py) ∧ (px < bx ∨ px = bx ∧ py ≤ b_y)) := by
  have k := onB_hd (V := 1) h hl hp (by decide)
  rw [k]; congr 1; apply propext
  unfold Hd
  have e : (bx - ax) * (py * 1 - ay * 1) - (b_y - ay) * (px * 1 - ax * 1) = 0 := by rw [← ht]; unfold trn; grind
  rw [e]; omega
end Go.Proofs.Ytlcbomjdbdgbmaa

namespace Go.Proofs.Ytlcbomjdbdgbmaa
open Go.RowKit

theorem lxle {ax ay bx b_y : Int} (hl : ahd bx b_y ax ay = false) : ax < bx ∨ ax = bx ∧ ay ≤ b_y := by have := ahd_f hl; omega
/-- from where on both are, and how far -/
def frx (ax ay cx cy : Int) : Int := if ax < cx ∨ ax = cx ∧ ay < cy then cx else ax
def fry (ax ay cx cy : Int) : Int := if ax < cx ∨ ax = cx ∧ ay < cy then cy else ay
def tox (bx b_y dx dy : Int) : Int := if dx < bx ∨ dx = bx ∧ dy < b_y then dx else bx
def toy (bx b_y dx dy : Int) : Int := if dx < bx ∨ dx = bx ∧ dy < b_y then dy else b_y
theorem gt_cmpP (ax ay cx cy : Int) : decide (0 < cmpP cx cy ax ay) = decide (ax < cx ∨ ax = cx ∧ ay < cy) := by
  rw [cmpP_if]
  split
  · rw [decide_eq_false (by decide), decide_eq_false (by omega)]
  · split
    · rw [decide_eq_false (by decide), decide_eq_false (by omega)]
    · rw [decide_eq_true (by decide), decide_eq_true (by omega)]
theorem lt_cmpP (bx b_y dx dy : Int) : decide (cmpP dx dy bx b_y < 0) = decide (dx < bx ∨ dx = bx ∧ dy < b_y) := by
  rw [cmpP_if]
  split
  · rw [decide_eq_true (by decide), decide_eq_true (by assumption)]
  · split
    · rw [decide_eq_false (by decide), decide_eq_false (by assumption)]
    · rw [decide_eq_false (by decide), decide_eq_false (by assumption)]
theorem sh_vals {ax ay bx b_y cx cy dx dy : Int} (hl1 : ahd bx b_y ax ay = false) (hl2 : ahd dx dy cx cy = false) :
    (shk ax ay bx b_y cx cy dx dy = bif cmpP (frx ax ay cx cy) (fry ax ay cx cy) (tox bx b_y dx dy) (toy bx b_y dx dy) == 0 then 1 else bif cmpP (frx ax ay cx cy) (fry ax ay cx cy) (tox bx b_y dx dy) (toy bx b_y dx dy) == -1 then 2 else 0) ∧
    (shx ax ay bx b_y cx cy dx dy = bif cmpP (frx ax ay cx cy) (fry ax ay cx cy) (tox bx b_y dx dy) (toy bx b_y dx dy) == 0 then atx (frx ax ay cx cy) (fry ax ay cx cy) else 0) ∧
    (shy ax ay bx b_y cx cy dx dy = bif cmpP (frx ax ay cx cy) (fry ax ay cx cy) (tox bx b_y dx dy) (toy bx b_y dx dy) == 0 then aty (frx ax ay cx cy) (fry ax ay cx cy) else 0) ∧
    (shw ax ay bx b_y cx cy dx dy = bif cmpP (frx ax ay cx cy) (fry ax ay cx cy) (tox bx b_y dx dy) (toy bx b_y dx dy) == 0 then atw (frx ax ay cx cy) (fry ax ay cx cy) else 0) := by
  obtain ⟨e1, e2, e3, e4⟩ := ends_f hl1
  obtain ⟨f1, f2, f3, f4⟩ := ends_f hl2
  unfold shk shx shy shw
  rw [e1, e2, e3, e4, f1, f2, f3, f4, gt_cmpP, lt_cmpP]
  unfold frx fry tox toy
  by_cases g1 : ax < cx ∨ ax = cx ∧ ay < cy <;> by_cases g2 : dx < bx ∨ dx = bx ∧ dy < b_y
  · rw [decide_eq_true g1, decide_eq_true g2, if_pos g1, if_pos g1, if_pos g2, if_pos g2]; exact ⟨rfl, rfl, rfl, rfl⟩
  · rw [decide_eq_true g1, decide_eq_false g2, if_pos g1, if_pos g1, if_neg g2, if_neg g2]; exact ⟨rfl, rfl, rfl, rfl⟩
  · rw [decide_eq_false g1, decide_eq_true g2, if_neg g1, if_neg g1, if_pos g2, if_pos g2]; exact ⟨rfl, rfl, rfl, rfl⟩
  · rw [decide_eq_false g1, decide_eq_false g2, if_neg g1, if_neg g1, if_neg g2, if_neg g2]; exact ⟨rfl, rfl, rfl, rfl⟩
/-- a point as one number -/
def ky (x y : Int) : Int := x * 8796093022208 + y
theorem ky_lt {ax ay bx b_y : Int} (h2 : Co ay) (h4 : Co b_y) : (ax < bx ∨ ax = bx ∧ ay < b_y) ↔ ky ax ay < ky bx b_y := by unfold ky; unfold Co at *; omega
theorem ky_le {ax ay bx b_y : Int} (h2 : Co ay) (h4 : Co b_y) : (ax < bx ∨ ax = bx ∧ ay ≤ b_y) ↔ ky ax ay ≤ ky bx b_y := by unfold ky; unfold Co at *; omega
theorem ky_eq {ax ay bx b_y : Int} (h2 : Co ay) (h4 : Co b_y) : (ax = bx ∧ ay = b_y) ↔ ky ax ay = ky bx b_y := by unfold ky; unfold Co at *; omega
theorem line_rm {ax ay bx b_y cx cy dx dy fx fy tx ty A B C D F T : Int} {oa ob oc od : Bool}
    (ha : oa = decide (C ≤ A ∧ A ≤ D)) (hb : ob = decide (C ≤ B ∧ B ≤ D)) (hc : oc = decide (A ≤ C ∧ C ≤ B)) (hd : od = decide (A ≤ D ∧ D ≤ B)) (hAB : A ≤ B) (hCD : C ≤ D)
    (hf : (F = A ∧ fx = ax ∧ fy = ay ∧ C ≤ A) ∨ (F = C ∧ fx = cx ∧ fy = cy ∧ A ≤ C)) (ht : (T = B ∧ tx = bx ∧ ty = b_y ∧ B ≤ D) ∨ (T = D ∧ tx = dx ∧ ty = dy ∧ D ≤ B))
    (ia : A = F → ax = fx ∧ ay = fy) (ib : B = F → bx = fx ∧ b_y = fy) (ic : C = F → cx = fx ∧ cy = fy) (id : D = F → dx = fx ∧ dy = fy) (ne : F < T → ¬(fx = tx ∧ fy = ty)) :
    rm none [(oa, ax, ay), (ob, bx, b_y), (oc, cx, cy), (od, dx, dy)] false = if F < T then 2 else if F = T then 1 else 0 := by
  have hF : F = max A C := by omega
  have hT : T = min B D := by omega
  by_cases c1 : F < T
  · rw [if_pos c1]
    refine rm_two _ _ _ _ _ _ _ _ _ _ _ _ fx fy tx ty _ (ne c1) ?_ ?_
    · rcases hf with ⟨e, rfl, rfl, _⟩ | ⟨e, rfl, rfl, _⟩
      · exact .inl ⟨by rw [ha]; exact decide_eq_true (by omega), rfl, rfl⟩
      · exact .inr (.inr (.inl ⟨by rw [hc]; exact decide_eq_true (by omega), rfl, rfl⟩))
    · rcases ht with ⟨e, rfl, rfl, _⟩ | ⟨e, rfl, rfl, _⟩
      · exact .inr (.inl ⟨by rw [hb]; exact decide_eq_true (by omega), rfl, rfl⟩)
      · exact .inr (.inr (.inr ⟨by rw [hd]; exact decide_eq_true (by omega), rfl, rfl⟩))
  · rw [if_neg c1]
    clear ne
    by_cases c2 : F = T
    · rw [if_pos c2]
      refine rm_one _ _ _ _ _ _ _ _ _ _ _ _ fx fy _ ?_ ?_ ?_ ?_ ?_
      · rcases hf with ⟨e, _, _, _⟩ | ⟨e, _, _, _⟩
        · exact .inl (by rw [ha]; exact decide_eq_true (by omega))
        · exact .inr (.inr (.inl (by rw [hc]; exact decide_eq_true (by omega))))
      · intro h; rw [ha] at h; have h := of_decide_eq_true h; clear hf ht ib ic id; exact ia (by omega)
      · intro h; rw [hb] at h; have h := of_decide_eq_true h; clear hf ht ia ic id; exact ib (by omega)
      · intro h; rw [hc] at h; have h := of_decide_eq_true h; clear hf ht ia ib id; exact ic (by omega)
      · intro h; rw [hd] at h; have h := of_decide_eq_true h; clear hf ht ia ib ic; exact id (by omega)
    · rw [if_neg c2]
      clear hf ht ia ib ic id
      refine rm_not (ha.trans (decide_eq_false ?_)) (hb.trans (decide_eq_false ?_)) (hc.trans (decide_eq_false ?_)) (hd.trans (decide_eq_false ?_)) rfl <;> omega
theorem fr_mem {ax ay cx cy : Int} (h2 : Co ay) (h6 : Co cy) : (ky (frx ax ay cx cy) (fry ax ay cx cy) = ky ax ay ∧ frx ax ay cx cy = ax ∧ fry ax ay cx cy = ay ∧ ky cx cy ≤ ky ax ay) ∨
    (ky (frx ax ay cx cy) (fry ax ay cx cy) = ky cx cy ∧ frx ax ay cx cy = cx ∧ fry ax ay cx cy = cy ∧ ky ax ay ≤ ky cx cy) := by
  have k := ky_lt (ax := ax) (bx := cx) h2 h6
  unfold frx fry
  by_cases g : ax < cx ∨ ax = cx ∧ ay < cy
  · rw [if_pos g, if_pos g]; exact .inr ⟨rfl, rfl, rfl, Int.le_of_lt (k.1 g)⟩
  · rw [if_neg g, if_neg g]; exact .inl ⟨rfl, rfl, rfl, Int.not_lt.1 fun e => g (k.2 e)⟩
theorem to_mem {bx b_y dx dy : Int} (h4 : Co b_y) (h8 : Co dy) : (ky (tox bx b_y dx dy) (toy bx b_y dx dy) = ky bx b_y ∧ tox bx b_y dx dy = bx ∧ toy bx b_y dx dy = b_y ∧ ky bx b_y ≤ ky dx dy) ∨
    (ky (tox bx b_y dx dy) (toy bx b_y dx dy) = ky dx dy ∧ tox bx b_y dx dy = dx ∧ toy bx b_y dx dy = dy ∧ ky dx dy ≤ ky bx b_y) := by
  have k := ky_lt (ax := dx) (bx := bx) h8 h4
  unfold tox toy
  by_cases g : dx < bx ∨ dx = bx ∧ dy < b_y
  · rw [if_pos g, if_pos g]; exact .inr ⟨rfl, rfl, rfl, Int.le_of_lt (k.1 g)⟩
  · rw [if_neg g, if_neg g]; exact .inl ⟨rfl, rfl, rfl, Int.not_lt.1 fun e => g (k.2 e)⟩
theorem cmpP_ky {ax ay bx b_y : Int} (h2 : Co ay) (h4 : Co b_y) : cmpP ax ay bx b_y = if ky ax ay < ky bx b_y then -1 else if ky ax ay = ky bx b_y then 0 else 1 := by
  rw [cmpP_if]; simp only [ky_lt h2 h4, ky_eq h2 h4]
theorem onB_ky {ax ay bx b_y px py : Int} (h : sgR ax ay bx b_y = true) (hl : ahd bx b_y ax ay = false) (hp : rp px py = true) (ht : trn ax ay bx b_y px py = 0) :
    onB ax ay bx b_y px py = decide (ky ax ay ≤ ky px py ∧ ky px py ≤ ky bx b_y) := by
  rw [onB_line h hl hp ht]
  obtain ⟨ra, rb⟩ := sg_true h
  have a2 := (rp_co ra).2
  have b2 := (rp_co rb).2
  have p2 := (rp_co hp).2
  simp only [ky_le a2 p2, ky_le p2 b2]
theorem sq_line {ax ay bx b_y cx cy dx dy fx fy X Y V : Int} (hfa : (fx = ax ∧ fy = ay) ∨ (fx = cx ∧ fy = cy)) (hfb : (fx = bx ∧ fy = b_y) ∨ (fx = dx ∧ fy = dy))
    (h1 : Hd ax ay bx b_y X Y V) (h2 : Hd cx cy dx dy X Y V) : X = fx * V ∧ Y = fy * V := by
  obtain ⟨_, p1, p2⟩ := h1
  obtain ⟨_, q1, q2⟩ := h2
  have k1 : fx * V < X ∨ fx * V = X ∧ fy * V ≤ Y := by rcases hfa with ⟨rfl, rfl⟩ | ⟨rfl, rfl⟩ <;> assumption
  have k2 : X < fx * V ∨ X = fx * V ∧ Y ≤ fy * V := by rcases hfb with ⟨rfl, rfl⟩ | ⟨rfl, rfl⟩ <;> assumption
  clear p1 p2 q1 q2
  omega
theorem meet_line {ax ay bx b_y cx cy dx dy : Int} (h1 : sgR ax ay bx b_y = true) (h2 : sgR cx cy dx dy = true) (hl1 : ahd bx b_y ax ay = false) (hl2 : ahd dx dy cx cy = false)
    (hw : w0 ax ay bx b_y cx cy dx dy = 0) (hm : m0 ax ay bx b_y cx cy dx dy = 0) (hn : n0 ax ay bx b_y cx cy dx dy = 0) :
    rmt ax ay bx b_y cx cy dx dy = (bif cmpP (frx ax ay cx cy) (fry ax ay cx cy) (tox bx b_y dx dy) (toy bx b_y dx dy) == 0 then 1 else bif cmpP (frx ax ay cx cy) (fry ax ay cx cy) (tox bx b_y dx dy) (toy bx b_y dx dy) == -1 then 2 else 0) ∧
    (cmpP (frx ax ay cx cy) (fry ax ay cx cy) (tox bx b_y dx dy) (toy bx b_y dx dy) = 0 → rp (frx ax ay cx cy) (fry ax ay cx cy) = true ∧ Hd ax ay bx b_y (frx ax ay cx cy) (fry ax ay cx cy) 1 ∧ Hd cx cy dx dy (frx ax ay cx cy) (fry ax ay cx cy) 1 ∧ Only ax ay bx b_y cx cy dx dy) := by
  obtain ⟨t1, t2, t3, t4⟩ := turn4 ax ay bx b_y cx cy dx dy
  rw [hn] at t1
  rw [hn, hw] at t2
  rw [hm] at t3
  rw [hw, hm] at t4
  obtain ⟨ra, rb⟩ := sg_true h1
  obtain ⟨rc, rd⟩ := sg_true h2
  have a2 := (rp_co ra).2
  have b2 := (rp_co rb).2
  have c2 := (rp_co rc).2
  have d2 := (rp_co rd).2
  have kab := (ky_le a2 b2).1 (lxle hl1)
  have kcd := (ky_le c2 d2).1 (lxle hl2)
  have oa : (onB ax ay bx b_y ax ay && onB cx cy dx dy ax ay) = decide (ky cx cy ≤ ky ax ay ∧ ky ax ay ≤ ky dx dy) := by
    rw [onB_end, ra, rb, Bool.and_self, Bool.true_and, onB_ky h2 hl2 ra t1]
  have ob : (onB ax ay bx b_y bx b_y && onB cx cy dx dy bx b_y) = decide (ky cx cy ≤ ky bx b_y ∧ ky bx b_y ≤ ky dx dy) := by
    rw [← onB_swap ax ay bx b_y, onB_end, ra, rb, Bool.and_self, Bool.true_and, onB_ky h2 hl2 rb t2]
  have oc : (onB ax ay bx b_y cx cy && onB cx cy dx dy cx cy) = decide (ky ax ay ≤ ky cx cy ∧ ky cx cy ≤ ky bx b_y) := by
    rw [onB_end, rc, rd, Bool.and_self, Bool.and_true, onB_ky h1 hl1 rc t3]
  have od : (onB ax ay bx b_y dx dy && onB cx cy dx dy dx dy) = decide (ky ax ay ≤ ky dx dy ∧ ky dx dy ≤ ky bx b_y) := by
    rw [← onB_swap cx cy dx dy, onB_end, rc, rd, Bool.and_self, Bool.and_true, onB_ky h1 hl1 rd t4]
  have hf : fac ax ay bx b_y cx cy dx dy = false := by
    unfold fac way rp3
    rw [ra, rb, rc, rd]
    simp only [Bool.and_self, cond_true]
    rw [t3, Int.neg_zero, Int.sign_zero, Int.zero_mul]; rfl
  have mf := fr_mem (ax := ax) (cx := cx) a2 c2
  have mt := to_mem (bx := bx) (dx := dx) b2 d2
  have rf : rp (frx ax ay cx cy) (fry ax ay cx cy) = true := by
    rcases mf with ⟨_, e1, e2, _⟩ | ⟨_, e1, e2, _⟩ <;> (rw [e1, e2]; assumption)
  have rt : rp (tox bx b_y dx dy) (toy bx b_y dx dy) = true := by
    rcases mt with ⟨_, e1, e2, _⟩ | ⟨_, e1, e2, _⟩ <;> (rw [e1, e2]; assumption)
  have f2 := (rp_co rf).2
  have g2 := (rp_co rt).2
  have key := line_rm oa ob oc od kab kcd mf mt (fun e => (ky_eq a2 f2).2 e) (fun e => (ky_eq b2 f2).2 e) (fun e => (ky_eq c2 f2).2 e) (fun e => (ky_eq d2 f2).2 e) (fun e k => by have := (ky_eq f2 g2).1 k; omega)
  unfold rmt
  rw [hf, key, cmpP_ky f2 g2]
  clear key oa ob oc od hf
  generalize frx ax ay cx cy = fx at *
  generalize fry ax ay cx cy = fy at *
  generalize tox bx b_y dx dy = tx at *
  generalize toy bx b_y dx dy = ty at *
  by_cases c1 : ky fx fy < ky tx ty
  · rw [if_pos c1, if_pos c1]; exact ⟨rfl, fun h => by cases h⟩
  · rw [if_neg c1, if_neg c1]
    by_cases c2 : ky fx fy = ky tx ty
    · rw [if_pos c2, if_pos c2]
      refine ⟨rfl, fun _ => ⟨rf, ?_, ?_, ?_⟩⟩
      · have q := onB_hd (V := 1) h1 hl1 rf (by decide)
        rw [Int.mul_one, Int.mul_one] at q
        refine of_decide_eq_true (q.symm.trans ?_)
        rcases mf with ⟨_, rfl, rfl, _⟩ | ⟨e, rfl, rfl, e2⟩
        · rw [onB_end, ra, rb]; rfl
        · rw [onB_ky h1 hl1 rc t3]; refine decide_eq_true ⟨e2, ?_⟩
          rcases mt with ⟨e3, _, _, _⟩ | ⟨e3, _, _, e4⟩ <;> omega
      · have q := onB_hd (V := 1) h2 hl2 rf (by decide)
        rw [Int.mul_one, Int.mul_one] at q
        refine of_decide_eq_true (q.symm.trans ?_)
        rcases mf with ⟨e, rfl, rfl, e2⟩ | ⟨e, rfl, rfl, e2⟩
        · rw [onB_ky h2 hl2 ra t1]; refine decide_eq_true ⟨e2, ?_⟩
          rcases mt with ⟨e3, _, _, _⟩ | ⟨e3, _, _, e4⟩ <;> omega
        · rw [onB_end, rc, rd]; rfl
      · obtain ⟨u1, u2⟩ := (ky_eq f2 g2).2 c2
        have hfa : (fx = ax ∧ fy = ay) ∨ (fx = cx ∧ fy = cy) := by
          rcases mf with ⟨_, e1, e2, _⟩ | ⟨_, e1, e2, _⟩
          · exact .inl ⟨e1, e2⟩
          · exact .inr ⟨e1, e2⟩
        have hfb : (fx = bx ∧ fy = b_y) ∨ (fx = dx ∧ fy = dy) := by
          rcases mt with ⟨_, e1, e2, _⟩ | ⟨_, e1, e2, _⟩
          · exact .inl ⟨u1.trans e1, u2.trans e2⟩
          · exact .inr ⟨u1.trans e1, u2.trans e2⟩
        rintro X Y V X2 Y2 V2 _ _ r1 r2 r3 r4
        obtain ⟨rfl, rfl⟩ := sq_line hfa hfb r1 r2
        obtain ⟨rfl, rfl⟩ := sq_line hfa hfb r3 r4
        exact ⟨by grind, by grind⟩
    · rw [if_neg c2, if_neg c2]; exact ⟨rfl, fun h => by cases h⟩

/-- what Meet answers, for segments whose ends stand in order -/
theorem meet_lex {ax ay bx b_y cx cy dx dy : Int} (h1 : sgR ax ay bx b_y = true) (h2 : sgR cx cy dx dy = true) (hl1 : ahd bx b_y ax ay = false) (hl2 : ahd dx dy cx cy = false) :
    mtk ax ay bx b_y cx cy dx dy = rmt ax ay bx b_y cx cy dx dy ∧ (mtk ax ay bx b_y cx cy dx dy = 1 →
      rspR (mtx ax ay bx b_y cx cy dx dy) (mty ax ay bx b_y cx cy dx dy) (mtw ax ay bx b_y cx cy dx dy) = true ∧ Hd ax ay bx b_y (mtx ax ay bx b_y cx cy dx dy) (mty ax ay bx b_y cx cy dx dy) (mtw ax ay bx b_y cx cy dx dy) ∧
      Hd cx cy dx dy (mtx ax ay bx b_y cx cy dx dy) (mty ax ay bx b_y cx cy dx dy) (mtw ax ay bx b_y cx cy dx dy) ∧ Only ax ay bx b_y cx cy dx dy) := by
  obtain ⟨ra, rb⟩ := sg_true h1
  obtain ⟨rc, rd⟩ := sg_true h2
  unfold mtk mtx mty mtw
  rw [h1, h2]
  simp only [cond_true]
  cases g1 : dotB ax ay bx b_y
  · cases g2 : dotB cx cy dx dy
    · simp only [cond_false]
      rw [slp_w0 h1 h2 hl1 hl2]
      have l1 := lx_of hl1 g1
      have l2 := lx_of hl2 g2
      by_cases hw : w0 ax ay bx b_y cx cy dx dy = 0
      · rw [decide_eq_true hw, cond_true, cond_true, cond_true, cond_true]
        have e : (way ax ay bx b_y cx cy == 0) = decide (m0 ax ay bx b_y cx cy dx dy = 0) := by
          unfold way rp3; rw [ra, rb, rc, (turn4 ax ay bx b_y cx cy dx dy).2.2.1, Int.sign_neg]
          show (-_ == 0) = _
          rw [neg_eq0, Bool.eq_iff_iff]; simp [Int.sign_eq_zero_iff_zero]
        rw [e]
        by_cases hm : m0 ax ay bx b_y cx cy dx dy = 0
        · rw [decide_eq_true hm, cond_true, cond_true, cond_true, cond_true]
          obtain ⟨s1, s2, s3, s4⟩ := sh_vals hl1 hl2
          obtain ⟨r1, r2⟩ := meet_line h1 h2 hl1 hl2 hw hm (par_n l1 hw hm)
          rw [s1, s2, s3, s4, r1]
          refine ⟨rfl, fun k => ?_⟩
          by_cases z : cmpP (frx ax ay cx cy) (fry ax ay cx cy) (tox bx b_y dx dy) (toy bx b_y dx dy) = 0
          · rw [z]
            obtain ⟨q1, q2, q3, q4⟩ := r2 z
            obtain ⟨u1, u2, u3⟩ := at_eqs q1
            show rspR (atx _ _) (aty _ _) (atw _ _) = true ∧ Hd _ _ _ _ (atx _ _) (aty _ _) (atw _ _) ∧ Hd _ _ _ _ (atx _ _) (aty _ _) (atw _ _) ∧ _
            rw [u1, u2, u3]
            exact ⟨at_ok q1, q2, q3, q4⟩
          · rw [show (cmpP (frx ax ay cx cy) (fry ax ay cx cy) (tox bx b_y dx dy) (toy bx b_y dx dy) == 0) = false by simpa using z, cond_false] at k
            revert k; cases (cmpP (frx ax ay cx cy) (fry ax ay cx cy) (tox bx b_y dx dy) (toy bx b_y dx dy) == -1) <;> intro k <;> cases k
        · rw [decide_eq_false hm, meet_far h1 h2 l2 hw hm]
          exact ⟨rfl, fun k => by cases k⟩
      · rw [decide_eq_false hw, cond_false, cond_false, cond_false, cond_false]
        obtain ⟨hW, r1, r2⟩ := meet_cross h1 h2 hl1 hl2 g1 g2 hw
        rw [r1, spR_eq]
        generalize cgx ax ay bx b_y cx cy dx dy = X at *
        generalize cgy ax ay bx b_y cx cy dx dy = Y at *
        generalize cgw ax ay bx b_y cx cy dx dy = W at *
        cases hs : rspR X Y W
        · have nh : ¬ Hd ax ay bx b_y X Y W := fun h => by rw [r2 h] at hs; cases hs
          rw [if_neg (fun h => nh h.1)]
          exact ⟨rfl, fun k => by cases k⟩
        · rw [hld_eq h1 hs, hld_eq h2 hs, rhld_hd h1 hl1, rhld_hd h2 hl2]
          by_cases p : Hd ax ay bx b_y X Y W
          · by_cases q : Hd cx cy dx dy X Y W
            · rw [decide_eq_true p, decide_eq_true q, if_pos ⟨p, q⟩]
              exact ⟨rfl, fun _ => ⟨hs, p, q, only_other hw⟩⟩
            · rw [decide_eq_true p, decide_eq_false q, if_neg (fun h => q h.2)]
              exact ⟨rfl, fun k => by cases k⟩
          · rw [decide_eq_false p, if_neg (fun h => p h.1)]
            exact ⟨rfl, fun k => by cases k⟩
    · obtain ⟨rfl, rfl⟩ := dot_t g2
      simp only [cond_true, cond_false]
      obtain ⟨q1, q2⟩ := hold_pt h1 hl1 rc
      rw [q1, ← rmt_comm, rmt_dot rc h1]
      refine ⟨rfl, fun k => ?_⟩
      cases o : onB ax ay bx b_y cx cy
      · rw [o] at k; cases k
      · obtain ⟨u1, u2, u3⟩ := at_eqs rc
        simp only [cond_true]
        rw [u1, u2, u3]
        exact ⟨at_ok rc, q2 o, hd_own, only_comm only_dot⟩
  · obtain ⟨rfl, rfl⟩ := dot_t g1
    simp only [cond_true]
    obtain ⟨q1, q2⟩ := hold_pt h2 hl2 ra
    rw [q1, rmt_dot ra h2]
    cases o : onB cx cy dx dy ax ay
    · simp only [cond_false]
      have z : (bif dotB cx cy dx dy then bif hldB ax ay ax ay (atx cx cy) (aty cx cy) (atw cx cy) then (1 : Int) else 0 else 0) = 0 := by
        cases g2 : dotB cx cy dx dy
        · rfl
        · obtain ⟨rfl, rfl⟩ := dot_t g2
          rw [(hold_pt h1 hl1 rc).1]
          cases o2 : onB ax ay ax ay cx cy
          · rfl
          · obtain ⟨rfl, rfl⟩ := onB_pt o2
            rw [onB_end, rc] at o; cases o
      rw [z]
      exact ⟨rfl, fun k => by cases k⟩
    · obtain ⟨u1, u2, u3⟩ := at_eqs ra
      simp only [cond_true]
      rw [u1, u2, u3]
      exact ⟨trivial, fun _ => ⟨at_ok ra, hd_own, q2 o, only_dot⟩⟩
end Go.Proofs.Ytlcbomjdbdgbmaa

