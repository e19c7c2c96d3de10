/- The walks of package ratio: Whole, common. Conditions: the numbers are numbers of 256 bits. -/
import Derived.Test.YtgddpkopbiendaaRatio1
import Derived.Deep.LoopGhost
namespace Go.Proofs.Ytgddpkopbiendaa
open Go.RowKit

/-- Div by a number above 0 -/
theorem Div_pos (x y : Int) (w : World) (ix : InI x) (iy : InI y) (hy : 0 < y) :
    Calls Try.prog 35 #[wI x, wI y] w fun e w' => e = .returned (.tuple #[wI (x / y), wI (x % y), .bool true]) ∧ Below w.heap.size w w' := by
  have hok : dvOk x y = true := by
    unfold dvOk
    have := ediv_in ix hy
    rw [fq_pos hy]
    obtain ⟨_, h2⟩ := this
    simp; omega
  have T := Div_any x y w ix iy
  rw [hok, fq_pos hy, fr_pos' hy, cond_true] at T
  exact T

theorem sign_eq0 (d : Int) : (d.sign == 0) = decide (d = 0) := by
  rcases Int.lt_trichotomy d 0 with h | h | h
  · rw [Int.sign_eq_neg_one_of_neg h]; simp; omega
  · subst h; rfl
  · rw [Int.sign_eq_one_of_pos h]; simp; omega

set_option maxRecDepth 100000 in
set_option maxHeartbeats 1000000 in
theorem Whole_any (n d : Int) (w : World) (hn : InI n) (hd : InI d) (b z : Bool) (hr : decide (0 < d) = b) (hz : decide (n % d = 0) = z) :
    Calls Try.prog 18 #[rI n d] w fun e w' => e = .returned (.bool (b && z)) ∧ Below w.heap.size w w' := by
  cases b
  · clear hz
    go_enter Try.func18, Try.ntmps18
    go_wp2_with fail
    refine (Right_is n d _ hd false hr).mono ?_
    rintro e w2 ⟨rfl, hn⟩
    go_wp2
    go_ret
    exact ⟨rfl, (below_a1 _ _).trans (hn.mono (by simp))⟩
  · have hd0 : 0 < d := of_decide_eq_true hr
    have HM := Lib.hid (emod_in (x := n) hd hd0)
    obtain ⟨m, hm⟩ : ∃ m, m = n % d := ⟨_, rfl⟩
    rw [← hm] at hz HM
    have hs : (m.sign == 0) = z := (sign_eq0 m).trans hz
    have HE := Lib.hid hm
    have HR := Lib.hid hr
    have HD := Lib.hid hd0
    clear hm hz hr hd0
    go_enter Try.func18, Try.ntmps18
    go_wp2_with fail
    refine calls_w ?_
    intro W hW
    have kr : RVar W w.heap.size n d := by rw [hW]; exact (Blk.new _ _ _)
    have hb0 : Below w.heap.size w W := by rw [hW]; exact below_a1 _ _
    clear hW
    refine (Right_is n d _ hd true HR.out).mono ?_
    rintro e w2 ⟨rfl, hn1⟩
    replace kr : RVar w2 _ _ _ := kr.of hn1
    replace hb0 := hb0.trans (hn1.mono hb0.size)
    clear hn1
    have c := RVar.c kr
    clear kr
    go_wp2_with fail
    have T := Div_pos n d w2 hn hd HD.out
    rw [← HE.out] at T
    refine T.mono ?_
    clear T c
    rintro e w3 ⟨rfl, hn1⟩
    replace hb0 := hb0.trans (hn1.mono hb0.size)
    clear hn1
    go_wp2_with fail
    refine (Sign_any m _ HM.out).mono ?_
    rintro e w4 ⟨rfl, hn1⟩
    have hb4 : Below w.heap.size w w4 := ((hb0.alloc hb0.size _).alloc (by simp; have := hb0.size; omega) _).trans (hn1.mono (by simp; have := hb0.size; omega))
    clear hn1 hb0
    go_wp2
    go_ret
    exact ⟨rfl, hb4⟩

theorem name_q {Q : Exit → Act → World → Prop} {e : Exit} {a : Act} {w : World} (h : ∀ W, W = w → Q e a W) : Q e a w := h w rfl

/-- where the search for the common one stands -/
structure ComAt (w : World) (a b : Int) (wr : World) : Prop where
  va : Var wr w.heap.size a
  vb : Var wr (w.heap.size + 1) b
  v0 : Var wr (w.heap.size + 1 + 1) 0
  below : Below w.heap.size w wr
theorem ComAt.of {w : World} {a b : Int} {wr w' : World} (h : ComAt w a b wr) (hn : Below wr.heap.size wr w') : ComAt w a b w' :=
  ⟨h.va.of hn, h.vb.of hn, h.v0.of hn, h.below.trans (hn.mono h.below.size)⟩

set_option maxRecDepth 100000 in
set_option maxHeartbeats 2000000 in
theorem common_any (a b : Int) (w : World) (ha : InI a) (hb : InI b) (hb0 : 0 < b) :
    Calls Try.prog 71 #[wI a, wI b] w fun e w' => e = .returned (wI (Int.gcd a b)) ∧ Below w.heap.size w w' := by
  have HA := Lib.hid (And.intro ha (And.intro hb hb0))
  clear ha hb hb0
  go_enter Try.func71, Try.ntmps71
  go_wp2_with fail
  refine name_world ?_
  intro W hW
  have hd0 : ComAt w a b W := by
    rw [hW]
    exact ⟨((Blk.new _ _ _).alloc _).alloc _, (Blk.new1 _ _ _ _).alloc _, Blk.new2 _ _ _ _ _, below_a3 _ _ _ _⟩
  clear hW
  go_loopg [] b.toNat (fun k wr => ∃ (x y : Int), Hid (InI x ∧ InI y ∧ 0 < y ∧ y ≤ k ∧ Int.gcd x y = Int.gcd a b) ∧ ComAt w x y wr)
  case atStart => exact ⟨a, b, ⟨HA.out.1, HA.out.2.1, HA.out.2.2, by have := HA.out.2.2; omega, rfl⟩, hd0⟩
  case round =>
    clear hd0 W
    obtain ⟨x, y, hx, hd⟩ := hrel
    have ca := Var.c hd.va
    have cb := Var.c hd.vb
    have HD := Lib.hid hd
    clear hd
    go_wp2_with fail
    refine (Div_pos x y _ hx.out.1 hx.out.2.1 hx.out.2.2.1).mono ?_
    rintro e w2 ⟨rfl, hn⟩
    have hd := HD.out.of hn
    clear hn HD ca cb
    have HM := Lib.hid (emod_in (x := x) hx.out.2.1 hx.out.2.2.1)
    obtain ⟨m, hm⟩ : ∃ m, m = x % y := ⟨_, rfl⟩
    rw [← hm] at HM ⊢
    have HE := Lib.hid hm
    clear hm
    have HD := Lib.hid hd
    clear hd
    by_cases hm0 : m = 0
    · subst hm0
      go_wp2_with fail
      refine calls_w ?_
      intro W3 hW3
      have hd : ComAt w x y W3 := by rw [hW3]; exact (HD.out.of ((below_a2 _ _ _)))
      clear hW3 HD
      refine (Sign_any 0 _ HM.out).mono ?_
      rintro e w4 ⟨rfl, hn⟩
      have hd := hd.of hn
      clear hn
      have cb := Var.c hd.vb
      have c0 := Var.c hd.v0
      have f0 := Var.f hd.v0
      have HD := Lib.hid hd
      clear hd
      go_wp2
      refine post_world ?_
      intro Wf hWf
      have kf : Var Wf (w.heap.size + 1 + 1) y := by rw [hWf]; exact HD.out.v0.put4 _
      have hbf : Below w.heap.size w Wf := by rw [hWf]; exact below_set4 HD.out.below (by omega) _ _ _ _
      have c := Var.c kf
      clear hWf cb c0 f0
      simp [bodyPost, results, Try.results71, go_sem, c]
      have e : (Int.gcd a b : Int) = y := by rw [← hx.out.2.2.2.2]; exact gcd_last hx.out.2.2.1 HE.out.symm
      rw [e]
      exact ⟨⟨rfl, rfl, rfl, rfl⟩, hbf⟩
    · have hs : (m.sign == 0) = false := by rw [sign_eq0]; simpa using hm0
      have HM0 := Lib.hid hm0
      clear hm0
      go_wp2_with fail
      refine calls_w ?_
      intro W3 hW3
      have hd : ComAt w x y W3 := by rw [hW3]; exact (HD.out.of ((below_a2 _ _ _)))
      have kr : Var W3 (w2.heap.size + 1) m := by rw [hW3]; exact Blk.new1 _ _ _ _
      have hlt : w.heap.size + 1 + 1 < w2.heap.size := HD.out.v0.lt
      clear hW3 HD
      refine (Sign_any m _ HM.out).mono ?_
      rintro e w4 ⟨rfl, hn⟩
      have hd := hd.of hn
      replace kr : Var w4 _ _ := kr.of hn
      clear hn
      go_wp2_with fail
      refine name_world ?_
      intro W4 hW4
      subst hW4
      have c1 := Var.c hd.vb
      have f1 := Var.f hd.vb
      have c3 := Var.c kr
      have c2 := Var.c hd.va
      have f2 := Var.f hd.va
      have l1 := hd.va.lt
      have l2 := hd.vb.lt
      have l3 := kr.lt
      have HD := Lib.hid hd
      have KR := Lib.hid kr
      clear hd kr
      go_region
      refine name_q ?_
      intro Wf hWf
      have hd : ComAt w y m Wf := by
        rw [hWf]
        refine ⟨((Var.put4 HD.out.va y).set4 ?_ _ _ _ _).drew, (Var.put4 (Blk.set4 HD.out.vb ?_ _ _ _ _) m).drew, ((Blk.set4 HD.out.v0 ?_ _ _ _ _).set4 ?_ _ _ _ _).drew, (below_set4 (below_set4 HD.out.below ?_ _ _ _ _) ?_ _ _ _ _).drew⟩ <;> omega
      clear hWf c1 f1 c3 c2 f2 KR HD
      have HD := Lib.hid hd
      clear hd
      go_wp2
      have hy := hx.out.2.2.1
      have m0 : 0 ≤ m := by rw [HE.out]; exact Int.emod_nonneg _ (by omega)
      have m1 : m < y := by rw [HE.out]; exact Int.emod_lt_of_pos _ hy
      have m2 := HM0.out
      have hyk := hx.out.2.2.2.1
      have fin : Hid (InI y ∧ InI m ∧ 0 < m ∧ m ≤ (m.toNat : Int) ∧ Int.gcd y m = Int.gcd a b) := ⟨hx.out.2.1, HM.out, by omega, by omega, by rw [HE.out, gcd_next]; exact hx.out.2.2.2.2⟩
      go_roundg m.toNat
      case measure => omega
      case rel =>
        exact ⟨y, m, fin, HD.out⟩
end Go.Proofs.Ytgddpkopbiendaa
