/- The walks of package ratio: New, Of, Sign. Conditions: the numbers are numbers of 256 bits. -/
import Derived.Test.YtgddpkopbiendaaRatio2
namespace Go.Proofs.Ytgddpkopbiendaa
open Go.RowKit

theorem Sign_is (x : Int) (s : Int) (hs : x.sign = s) (w : World) (h : InI x) :
    Calls Try.prog 51 #[wI x] w fun e w' => e = .returned (.int .i64 s) ∧ Below w.heap.size w w' := hs ▸ Sign_any x w h
theorem Neg_is (x : Int) (b : Bool) (hb : okI (-x) = b) (w : World) (h : InI x) :
    Calls Try.prog 70 #[wI x] w fun e w' => e = .returned (.tuple #[wI (bif b then -x else 0), .bool b]) ∧ Below w.heap.size w w' := hb ▸ Neg_ok x w h

/-- the two variables of New, and what it hands back -/
structure NewAt (w : World) (x y : Int) (wr : World) : Prop where
  kx : Var wr w.heap.size x
  ky : Var wr (w.heap.size + 1) y
  k0 : RVar wr (w.heap.size + 1 + 1) 0 0
  below : Below w.heap.size w wr
theorem NewAt.of {w : World} {x y : Int} {wr w' : World} (h : NewAt w x y wr) (hn : Below wr.heap.size wr w') : NewAt w x y w' :=
  ⟨h.kx.of hn, h.ky.of hn, h.k0.of hn, h.below.trans (hn.mono h.below.size)⟩
theorem NewAt.setx {w : World} {x y : Int} {wr : World} (h : NewAt w x y wr) (z : Int) : NewAt w z y
    ((((wr.setCell ⟨w.heap.size, 0, none⟩ (.int .u64 (wd0 z))).setCell ⟨w.heap.size, 1, none⟩ (.int .u64 (wd1 z))).setCell ⟨w.heap.size, 2, none⟩ (.int .u64 (wd2 z))).setCell ⟨w.heap.size, 3, none⟩ (.int .u64 (wd3 z))) :=
  ⟨Var.put4 h.kx z, h.ky.set4 (by omega) _ _ _ _, h.k0.set4 (by omega) _ _ _ _, below_set4 h.below (Nat.le_refl _) _ _ _ _⟩
theorem NewAt.sety {w : World} {x y : Int} {wr : World} (h : NewAt w x y wr) (z : Int) : NewAt w x z
    ((((wr.setCell ⟨w.heap.size + 1, 0, none⟩ (.int .u64 (wd0 z))).setCell ⟨w.heap.size + 1, 1, none⟩ (.int .u64 (wd1 z))).setCell ⟨w.heap.size + 1, 2, none⟩ (.int .u64 (wd2 z))).setCell ⟨w.heap.size + 1, 3, none⟩ (.int .u64 (wd3 z))) :=
  ⟨h.kx.set4 (by omega) _ _ _ _, Var.put4 h.ky z, h.k0.set4 (by omega) _ _ _ _, below_set4 h.below (Nat.le_succ _) _ _ _ _⟩
/-- a fraction laid into its variable -/
abbrev set8 (w : World) (b : Nat) (n d : Int) : World :=
  (((((((w.setCell ⟨b, 0, none⟩ (.int .u64 (wd0 n))).setCell ⟨b, 1, none⟩ (.int .u64 (wd1 n))).setCell ⟨b, 2, none⟩ (.int .u64 (wd2 n))).setCell ⟨b, 3, none⟩ (.int .u64 (wd3 n))).setCell
    ⟨b, 4, none⟩ (.int .u64 (wd0 d))).setCell ⟨b, 5, none⟩ (.int .u64 (wd1 d))).setCell ⟨b, 6, none⟩ (.int .u64 (wd2 d))).setCell ⟨b, 7, none⟩ (.int .u64 (wd3 d))
theorem Blk.put8 {w : World} {b : Nat} {t : TypeId} {a0 a1 a2 a3 a4 a5 a6 a7 : Value} (h : Blk w b #[a0, a1, a2, a3, a4, a5, a6, a7] t) (b0 b1 b2 b3 b4 b5 b6 b7 : Value) :
    Blk ((((((((w.setCell ⟨b, 0, none⟩ b0).setCell ⟨b, 1, none⟩ b1).setCell ⟨b, 2, none⟩ b2).setCell ⟨b, 3, none⟩ b3).setCell ⟨b, 4, none⟩ b4).setCell ⟨b, 5, none⟩ b5).setCell ⟨b, 6, none⟩ b6).setCell ⟨b, 7, none⟩ b7) b #[b0, b1, b2, b3, b4, b5, b6, b7] t := by
  replace h : Blk _ b #[b0, a1, a2, a3, a4, a5, a6, a7] t := Blk.put h 0 b0
  replace h : Blk _ b #[b0, b1, a2, a3, a4, a5, a6, a7] t := Blk.put h 1 b1
  replace h : Blk _ b #[b0, b1, b2, a3, a4, a5, a6, a7] t := Blk.put h 2 b2
  replace h : Blk _ b #[b0, b1, b2, b3, a4, a5, a6, a7] t := Blk.put h 3 b3
  replace h : Blk _ b #[b0, b1, b2, b3, b4, a5, a6, a7] t := Blk.put h 4 b4
  replace h : Blk _ b #[b0, b1, b2, b3, b4, b5, a6, a7] t := Blk.put h 5 b5
  replace h : Blk _ b #[b0, b1, b2, b3, b4, b5, b6, a7] t := Blk.put h 6 b6
  replace h : Blk _ b #[b0, b1, b2, b3, b4, b5, b6, b7] t := Blk.put h 7 b7
  exact h
theorem put8 {w : World} {b : Nat} {n d : Int} (h : RVar w b n d) (n' d' : Int) : RVar (set8 w b n' d') b n' d' := Blk.put8 h _ _ _ _ _ _ _ _
theorem Blk.set8 {w : World} {b b' : Nat} {c : Array Value} {t : TypeId} (h : Blk w b c t) (hne : b ≠ b') (n d : Int) : Blk (set8 w b' n d) b c t :=
  (((((((h.set hne 0 none _).set hne 1 none _).set hne 2 none _).set hne 3 none _).set hne 4 none _).set hne 5 none _).set hne 6 none _).set hne 7 none _
theorem below_set8 {w W : World} {B b : Nat} (h : Below B W w) (hB : B ≤ b) (n d : Int) : Below B W (set8 w b n d) :=
  (((((((h.setCell hB _).setCell hB _).setCell hB _).setCell hB _).setCell hB _).setCell hB _).setCell hB _).setCell hB _

set_option maxRecDepth 100000 in
set_option maxHeartbeats 2000000 in
/-- the divisor is not below 0 -/
theorem New_pos (x y : Int) (w : World) (iy : InI y) (s : Int) (hy : y.sign = s) (hs : s = 0 ∨ s = 1) :
    Calls Try.prog 25 #[wI x, wI y] w fun e w' => e = .returned (.tuple #[rI (bif s == 1 then x else 0) (bif s == 1 then y else 0), .bool (s == 1)]) ∧ Below w.heap.size w w' := by
  have HS := Lib.hid hy
  clear hy
  rcases hs with rfl | rfl
  · go_enter Try.func25, Try.ntmps25
    go_wp2_with fail
    refine calls_w ?_
    intro W hW
    have hd : NewAt w x y W := by
      rw [hW]
      exact ⟨((Blk.new _ _ _).alloc _).alloc _, (Blk.new1 _ _ _ _).alloc _, Blk.new2 _ _ _ _ _, below_a3 _ _ _ _⟩
    clear hW
    refine (Sign_is y 0 HS.out _ iy).mono ?_
    rintro e w2 ⟨rfl, hn⟩
    replace hd := hd.of hn
    clear hn
    have c := Var.c hd.ky
    go_wp2_with fail
    refine (Sign_is y 0 HS.out _ iy).mono ?_
    rintro e w3 ⟨rfl, hn⟩
    replace hd := hd.of hn
    clear hn c
    have c := RVar.c hd.k0
    have f := RVar.f hd.k0
    have HD := Lib.hid hd
    clear hd
    go_wp2
    refine post_world ?_
    intro Wf hWf
    have kf : RVar Wf (w.heap.size + 1 + 1) 0 0 := by rw [hWf]; exact put8 HD.out.k0 0 0
    have hbf : Below w.heap.size w Wf := by rw [hWf]; exact below_set8 HD.out.below (by omega) 0 0
    have c := RVar.c kf
    clear hWf
    simp [bodyPost, results, Try.results25, go_sem, c]
    exact hbf
  · go_enter Try.func25, Try.ntmps25
    go_wp2_with fail
    refine calls_w ?_
    intro W hW
    have hd : NewAt w x y W := by
      rw [hW]
      exact ⟨((Blk.new _ _ _).alloc _).alloc _, (Blk.new1 _ _ _ _).alloc _, Blk.new2 _ _ _ _ _, below_a3 _ _ _ _⟩
    clear hW
    refine (Sign_is y 1 HS.out _ iy).mono ?_
    rintro e w2 ⟨rfl, hn⟩
    replace hd := hd.of hn
    clear hn
    have c := Var.c hd.ky
    go_wp2_with fail
    refine (Sign_is y 1 HS.out _ iy).mono ?_
    rintro e w3 ⟨rfl, hn⟩
    replace hd := hd.of hn
    clear hn c
    have c := RVar.c hd.k0
    have f := RVar.f hd.k0
    have cx := Var.c hd.kx
    have cy := Var.c hd.ky
    have HD := Lib.hid hd
    clear hd
    go_wp2
    refine post_world ?_
    intro Wf hWf
    have kf : RVar Wf (w.heap.size + 1 + 1) x y := by rw [hWf]; exact put8 HD.out.k0 x y
    have hbf : Below w.heap.size w Wf := by rw [hWf]; exact below_set8 HD.out.below (by omega) x y
    have c := RVar.c kf
    clear hWf
    simp [bodyPost, results, Try.results25, go_sem, c]
    exact hbf

set_option maxRecDepth 100000 in
set_option maxHeartbeats 4000000 in
/-- the divisor is below 0 -/
theorem New_neg (x y : Int) (w : World) (ix : InI x) (iy : InI y) (hy : y < 0) (b1 b2 : Bool) (h1 : okI (-x) = b1) (h2 : okI (-y) = b2) :
    Calls Try.prog 25 #[wI x, wI y] w fun e w' => e = .returned (.tuple #[rI (bif b1 && b2 then -x else 0) (bif b1 && b2 then -y else 0), .bool (b1 && b2)]) ∧ Below w.heap.size w w' := by
  have HS := Lib.hid (Int.sign_eq_neg_one_of_neg hy)
  have H1 := Lib.hid h1
  have H2 := Lib.hid h2
  have HS2 := Lib.hid (Int.sign_eq_one_of_pos (show 0 < -y by omega))
  clear hy h1 h2
  go_enter Try.func25, Try.ntmps25
  go_wp2_with fail
  refine calls_w ?_
  intro W hW
  have hd : NewAt w x y W := by
    rw [hW]
    exact ⟨((Blk.new _ _ _).alloc _).alloc _, (Blk.new1 _ _ _ _).alloc _, Blk.new2 _ _ _ _ _, below_a3 _ _ _ _⟩
  clear hW
  refine (Sign_is y (-1) HS.out _ iy).mono ?_
  rintro e w2 ⟨rfl, hn⟩
  replace hd := hd.of hn
  clear hn
  have c := Var.c hd.kx
  go_wp2_with fail
  refine (Neg_is x b1 H1.out _ ix).mono ?_
  rintro e w3 ⟨rfl, hn⟩
  replace hd := hd.of hn
  clear hn c
  have c := Var.c hd.ky
  have cx := Var.c hd.kx
  have fx := Var.f hd.kx
  have HD := Lib.hid hd
  clear hd
  go_wp2_with fail
  refine calls_w ?_
  intro W3 hW3
  have hd : NewAt w (bif b1 then -x else 0) y W3 := by rw [hW3]; exact HD.out.setx _
  clear hW3 c cx fx HD
  refine (Neg_is y b2 H2.out _ iy).mono ?_
  rintro e w4 ⟨rfl, hn⟩
  replace hd := hd.of hn
  clear hn
  have cy := Var.c hd.ky
  have fy := Var.f hd.ky
  have c0 := RVar.c hd.k0
  have f0 := RVar.f hd.k0
  have HD := Lib.hid hd
  clear hd
  cases b1 <;> cases b2
  · go_wp2
    refine post_world ?_
    intro Wf hWf
    have kf : RVar Wf (w.heap.size + 1 + 1) 0 0 := by rw [hWf]; exact put8 (HD.out.sety _).k0 0 0
    have hbf : Below w.heap.size w Wf := by rw [hWf]; exact below_set8 (HD.out.sety _).below (by omega) 0 0
    have c := RVar.c kf
    clear hWf c0 f0 cy fy
    simp [bodyPost, results, Try.results25, go_sem, c]
    exact hbf
  · go_wp2
    refine post_world ?_
    intro Wf hWf
    have kf : RVar Wf (w.heap.size + 1 + 1) 0 0 := by rw [hWf]; exact put8 (HD.out.sety _).k0 0 0
    have hbf : Below w.heap.size w Wf := by rw [hWf]; exact below_set8 (HD.out.sety _).below (by omega) 0 0
    have c := RVar.c kf
    clear hWf c0 f0 cy fy
    simp [bodyPost, results, Try.results25, go_sem, c]
    exact hbf
  · go_wp2
    refine post_world ?_
    intro Wf hWf
    have kf : RVar Wf (w.heap.size + 1 + 1) 0 0 := by rw [hWf]; exact put8 (HD.out.sety _).k0 0 0
    have hbf : Below w.heap.size w Wf := by rw [hWf]; exact below_set8 (HD.out.sety _).below (by omega) 0 0
    have c := RVar.c kf
    clear hWf c0 f0 cy fy
    simp [bodyPost, results, Try.results25, go_sem, c]
    exact hbf
  · clear c0 f0
    go_wp2_with fail
    refine calls_w ?_
    intro W5 hW5
    have hd : NewAt w (-x) (-y) W5 := by rw [hW5]; exact HD.out.sety _
    clear hW5 cy fy HD
    have iy' : InI (-y) := by have := H2.out; unfold okI at this; exact of_decide_eq_true this
    refine (Sign_is (-y) 1 HS2.out _ iy').mono ?_
    rintro e w6 ⟨rfl, hn⟩
    replace hd := hd.of hn
    clear hn
    have c := RVar.c hd.k0
    have f := RVar.f hd.k0
    have cx := Var.c hd.kx
    have cy := Var.c hd.ky
    have HD := Lib.hid hd
    clear hd
    go_wp2
    refine post_world ?_
    intro Wf hWf
    have kf : RVar Wf (w.heap.size + 1 + 1) (-x) (-y) := by rw [hWf]; exact put8 HD.out.k0 (-x) (-y)
    have hbf : Below w.heap.size w Wf := by rw [hWf]; exact below_set8 HD.out.below (by omega) (-x) (-y)
    have c := RVar.c kf
    clear hWf
    simp [bodyPost, results, Try.results25, go_sem, c]
    exact hbf
end Go.Proofs.Ytgddpkopbiendaa
