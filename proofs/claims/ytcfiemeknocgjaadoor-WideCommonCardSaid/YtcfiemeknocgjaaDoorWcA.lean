/- The walk of package wide's Common. Conditions: the numbers are numbers of 256 bits. -/
import Derived.Test.YtcfiemeknocgjaaDoorMul2
import Derived.Test.YtcfiemeknocgjaaDoorBig11
import Derived.Deep.LoopGhost
import Derived.Test.YtcfiemeknocgjaaDoorRat
namespace Go.Proofs.YtcfiemeknocgjaaDoor
open Go.RowKit

theorem wname_q {Q : Exit → Act → World → Prop} {e : Exit} {a : Act} {w : World} (h : ∀ W, W = w → Q e a W) : Q e a w := h w rfl
/-- the greatest number that divides both, if it is one of 256 bits -/
def cmv (x y : Int) : Int := bif okI (Int.gcd x y : Int) then (Int.gcd x y : Int) else 0
def cmk (x y : Int) : Bool := okI (Int.gcd x y : Int)
/-- where Common stands -/
structure CmAt (w : World) (x y : Int) (b1 b2 : Nat) (wr : World) : Prop where
  v0 : Var wr (w.heap.size + 1 + 1) 0
  vx : Var wr b1 x
  vy : Var wr b2 y
  hne : b1 ≠ b2
  lb1 : w.heap.size + 1 + 1 < b1
  lb2 : w.heap.size + 1 + 1 < b2
  below : Below w.heap.size w wr
theorem CmAt.of {w : World} {x y : Int} {b1 b2 : Nat} {wr w' : World} (h : CmAt w x y b1 b2 wr) (hn : Below wr.heap.size wr w') : CmAt w x y b1 b2 w' :=
  ⟨h.v0.of hn, h.vx.of hn, h.vy.of hn, h.hne, h.lb1, h.lb2, h.below.trans (hn.mono h.below.size)⟩
theorem sz_gcd {x : Int} (h : InI x) : 0 ≤ sz x ∧ sz x ≤ b255 ∧ (sz x).natAbs = x.natAbs := by
  unfold sz; rw [ng_in h]; unfold InI b255 at *
  by_cases g : x < 0
  · rw [decide_eq_true g]; rw [cond_true]; omega
  · rw [decide_eq_false g]; rw [cond_false]; omega
theorem sgB_pos {s : Int} (h0 : 0 ≤ s) (h1 : s ≤ b255) : sgB s false = okI s := by
  unfold sgB okI
  rw [cond_false]
  by_cases g : s < b255
  · have hi : InI s := by unfold InI b255 at *; omega
    rw [ng_in hi, decide_eq_false (show ¬ s < 0 by omega), decide_eq_true hi]; rfl
  · obtain rfl : s = b255 := by omega
    decide
set_option maxRecDepth 100000 in
set_option maxHeartbeats 2000000 in
theorem Common_go (x y g : Int) (k : Bool) (hg : (Int.gcd x y : Int) = g) (hk : okI g = k) (ix : InI x) (iy : InI y) (w : World) :
    Calls Tryd.prog 7 #[wI x, wI y] w fun e w' => e = .returned (.tuple #[wI (bif k then g else 0), .bool k]) ∧ Below w.heap.size w w' := by
  obtain ⟨x0, x1, x2⟩ := sz_gcd ix
  obtain ⟨y0, y1, y2⟩ := sz_gcd iy
  have hgg : (Int.gcd (sz x) (sz y) : Int) = g := by rw [← hg]; unfold Int.gcd; rw [x2, y2]
  have HG := Lib.hid hgg
  have HX := Lib.hid (And.intro x0 x1)
  have HY := Lib.hid (And.intro y0 y1)
  have HK := Lib.hid hk
  clear x0 x1 x2 y0 y1 y2 hgg hg hk ix iy
  go_enter Tryd.func7, Tryd.ntmps7
  go_wp2_with fail
  refine name_world ?_
  intro W hW
  have va : Var W w.heap.size x := by rw [hW]; exact ((Blk.new _ _ _).alloc _).alloc _
  have vb : Var W (w.heap.size + 1) y := by rw [hW]; exact (Blk.new1 _ _ _ _).alloc _
  have v0 : Var W (w.heap.size + 1 + 1) 0 := by rw [hW]; exact Blk.new2 _ _ _ _ _
  have hb0 : Below w.heap.size w W := by rw [hW]; exact below_a3 _ _ _ _
  clear hW
  have c0 := va.c
  have c1 := vb.c
  have l0 := va.lt
  have l1 := vb.lt
  have l2 := v0.lt
  have V0 := Lib.hid v0
  clear va vb v0
  refine wp_region_FG2 6 4 5 [(0, 0), (0, 2), (1, 1), (1, 3)] [(3, 6), (3, 7)] (by kernel_rfl) (by kernel_rfl) (fun _ _ d _ _ => by cases d <;> exact Iff.rfl) rfl rfl rfl allocI rfl rfl rfl allocI rfl ?_
  have hb : Below W.heap.size W W.drew := (Below.refl _ _).drew
  iterate 2
    refine wpFG_take0 rfl rfl ?_
    go_big_quiet_step (rfl)
    refine wpQuiet_nil ?_
  refine wpFG_do rfl ?_
  intro w1 hg K hK
  replace hb := hb.trans (hg.mono hb.size)
  clear hg
  go_wp2_with ((go_at_call 28; refine (size_any _ _).mono ?_; rintro e w2 ⟨rfl, hn⟩))
  refine hK.out _ _ hn ?_
  replace hb := hb.trans (hn.mono hb.size)
  clear hK K
  clear hn
  refine wpFG_do rfl ?_
  intro w1 hg K hK
  replace hb := hb.trans (hg.mono hb.size)
  clear hg
  go_wp2_with ((go_at_call 28; refine (size_any _ _).mono ?_; rintro e w2 ⟨rfl, hn⟩))
  refine hK.out _ _ hn ?_
  replace hb := hb.trans (hn.mono hb.size)
  clear hK K
  clear hn
  refine wpFG_nil ?_
  clear hb
  intro w1 hg hb b1 b2 hne lb1 nb1 lb2 nb2
  clear hg
  simp only [Act.put, ptrTo, List.setIfInBounds_toArray, List.set_cons_succ, List.set_cons_zero]
  have c4 := Var.c (show Var w1 b1 0 from nb1)
  have f4 := Var.f (show Var w1 b1 0 from nb1)
  have c5 := Var.c (show Var w1 b2 0 from nb2)
  have f5 := Var.f (show Var w1 b2 0 from nb2)
  clear c0 c1 l0 l1
  refine wpG_do3 rfl ?_
  intro K hK
  go_wp2_with (fail)
  refine hK.out _ _ ?_
  clear hK K
  refine wpG_do3 rfl ?_
  intro K hK
  go_wp2_with (fail)
  refine hK.out _ _ ?_
  clear hK K
  refine wpG_nil ?_
  refine list_world ?_
  intro W1 hW1
  have hd : CmAt w (sz x) (sz y) b1 b2 W1 := by
    have h1 := lb1
    have h2 := lb2
    have g1 : Var w1 b1 0 := nb1
    have g2 : Var w1 b2 0 := nb2
    rw [hW1]
    exact ⟨((V0.out.of hb).set4 (by omega) _ _ _ _).set4 (by omega) _ _ _ _, (Var.put4 g1 (sz x)).set4 hne _ _ _ _, Var.put4 (g2.set4 (Ne.symm hne) _ _ _ _) (sz y), hne, by omega, by omega, below_set4 (below_set4 (hb0.trans (hb.mono hb0.size)) (by omega) _ _ _ _) (by omega) _ _ _ _⟩
  clear hW1 V0 nb1 nb2 hb hb0 c4 f4 c5 f5 hne lb1 lb2 l2
  go_wp2_with fail
  go_loopg [] (sz y).toNat (fun k wr => ∃ (u v : Int), Hid (0 ≤ u ∧ u ≤ b255 ∧ 0 ≤ v ∧ v ≤ b255 ∧ v ≤ k ∧ (Int.gcd u v : Int) = g) ∧ CmAt w u v b1 b2 wr)
  case atStart => exact ⟨sz x, sz y, ⟨HX.out.1, HX.out.2, HY.out.1, HY.out.2, by have := HY.out.1; omega, HG.out⟩, hd⟩
  case round =>
    clear hd W1 HG HX HY
    obtain ⟨u, v, hx, hd⟩ := hrel
    have c1 := Var.c hd.vx
    have c2 := Var.c hd.vy
    have HD := Lib.hid hd
    clear hd
    by_cases hv : v = 0
    · subst hv
      have hz : eq4 (wd0 0) (wd1 0) (wd2 0) (wd3 0) 0 0 0 0 = true := by decide
      have ug : u = g := by
        have := hx.out.2.2.2.2.2
        rw [← this, Int.gcd_zero_right]; have := hx.out.1; omega
      subst ug
      go_wp2_with fail
      refine (signed_any u false _).mono ?_
      rintro e w2 ⟨rfl, hn⟩
      rw [sgB_pos hx.out.1 hx.out.2.1, HK.out]
      have e1 : sgV u false = u := rfl
      rw [e1]
      obtain ⟨z, hz2⟩ : ∃ z, (bif k then u else 0) = z := ⟨_, rfl⟩
      rw [hz2]
      have HZ2 := Lib.hid hz2
      have hd := HD.out.of hn
      clear hn HD c1 c2 hz2
      have c0 := Var.c hd.v0
      have f0 := Var.f hd.v0
      have HD := Lib.hid hd
      clear hd
      go_wp2
      refine post_world ?_
      intro Wf hWf
      have kf : Var Wf (w.heap.size + 1 + 1) z := by rw [hWf]; exact Var.put4 HD.out.v0 z
      have hbf : Below w.heap.size w Wf := by rw [hWf]; exact below_set4 HD.out.below (by omega) _ _ _ _
      have c := Var.c kf
      clear hWf c0 f0
      simp [bodyPost, results, Tryd.results7, go_sem, c]
      exact ⟨by rw [HZ2.out]; exact ⟨rfl, rfl, rfl, rfl⟩, hbf⟩
    · have hz : eq4 (wd0 v) (wd1 v) (wd2 v) (wd3 v) 0 0 0 0 = false := by
        rw [eq4_0]; apply decide_eq_false
        have := hx.out.2.2.1; have := hx.out.2.2.2.1; unfold b255 b256 at *; omega
      have hdv := divided_any u v
      have hu : 0 ≤ u ∧ u < b256 := by have := hx.out; unfold b255 b256 at *; omega
      have hv2 : 0 < v ∧ v < b256 := by have := hx.out; unfold b255 b256 at *; omega
      have HU := Lib.hid (And.intro hu hv2)
      clear hdv hu hv2
      go_wp2_with fail
      refine (divided_any u v _ HU.out.1 HU.out.2).mono ?_
      rintro e w2 ⟨rfl, hn⟩
      have hd := HD.out.of hn
      clear hn HD c1 c2
      obtain ⟨m, hm⟩ : ∃ m, m = u % v := ⟨_, rfl⟩
      obtain ⟨q, hq⟩ : ∃ q, q = u / v := ⟨_, rfl⟩
      rw [← hm, ← hq]
      have HM := Lib.hid hm
      clear hm hq
      have HD := Lib.hid hd
      clear hd
      go_wp2_with fail
      refine name_world ?_
      intro W3 hW3
      have hd : CmAt w u v b1 b2 W3 := by rw [hW3]; exact HD.out.of (below_a2 _ _ _)
      have kr : Var W3 (w2.heap.size + 1) m := by rw [hW3]; exact Blk.new1 _ _ _ _
      have l4 : b1 < w2.heap.size := HD.out.vx.lt
      have l5 : b2 < w2.heap.size := HD.out.vy.lt
      clear hW3 HD
      have c1 := Var.c hd.vy
      have f1 := Var.f hd.vy
      have c2 := Var.c hd.vx
      have f2 := Var.f hd.vx
      have c3 := Var.c kr
      have l1 := hd.vx.lt
      have l2 := hd.vy.lt
      have l3 := kr.lt
      have hne := hd.hne
      have HD := Lib.hid hd
      have KR := Lib.hid kr
      clear hd kr
      go_region
      refine wname_q ?_
      intro Wf hWf
      have hd : CmAt w v m b1 b2 Wf := by
        have g1 := HD.out.lb1
        have g2 := HD.out.lb2
        rw [hWf]
        refine ⟨((Blk.set4 HD.out.v0 ?_ _ _ _ _).set4 ?_ _ _ _ _).drew, ((Var.put4 HD.out.vx v).set4 ?_ _ _ _ _).drew, (Var.put4 (Blk.set4 HD.out.vy ?_ _ _ _ _) m).drew, hne, g1, g2, (below_set4 (below_set4 HD.out.below ?_ _ _ _ _) ?_ _ _ _ _).drew⟩ <;> omega
      clear hWf c1 f1 c3 c2 f2 KR HD l1 l2 l3 l4 l5
      have HD := Lib.hid hd
      clear hd hne
      go_wp2
      have m0 : 0 ≤ m := by rw [HM.out]; exact Int.emod_nonneg _ (by have := HU.out.2; omega)
      have m1 : m < v := by rw [HM.out]; exact Int.emod_lt_of_pos _ HU.out.2.1
      have hh := hx.out
      have fin : Hid (0 ≤ v ∧ v ≤ b255 ∧ 0 ≤ m ∧ m ≤ b255 ∧ m ≤ (m.toNat : Int) ∧ (Int.gcd v m : Int) = g) := ⟨by omega, by omega, by omega, by omega, by omega, by rw [HM.out, gcd_next]; exact hh.2.2.2.2.2⟩
      have hyk := hh.2.2.2.2.1
      clear hx hh HU HM
      go_roundg m.toNat
      case measure => omega
      case rel => exact ⟨v, m, fin, HD.out⟩
theorem cmv_in (x y : Int) : InI (cmv x y) := by
  unfold cmv
  cases h : okI (Int.gcd x y : Int)
  · exact (by unfold InI b255; omega : InI 0)
  · exact of_decide_eq_true h
theorem Common_v (x y c : Int) (o : Bool) (hc : cmv x y = c) (ho : cmk x y = o) (ix : InI x) (iy : InI y) (w : World) :
    Calls Tryd.prog 7 #[wI x, wI y] w fun e w' => e = .returned (.tuple #[wI c, .bool o]) ∧ Below w.heap.size w w' := by
  have T := Common_go x y _ _ rfl ho ix iy w
  unfold cmv cmk at *
  rw [ho] at hc
  rw [hc] at T
  exact T
end Go.Proofs.YtcfiemeknocgjaaDoor
