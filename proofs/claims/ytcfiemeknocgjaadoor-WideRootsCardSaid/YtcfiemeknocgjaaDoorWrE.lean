/- The walks of wide: Power. Conditions: the numbers are ints and numbers of 256 bits. -/
import Derived.Test.YtcfiemeknocgjaaDoorWrD
namespace Go.Proofs.YtcfiemeknocgjaaDoor
open Go.RowKit

/-- so many products fit -/
def pwO (x : Int) : Nat → Bool
  | 0 => true
  | n + 1 => pwO x n && okI (x ^ n * x)
theorem pwO_lt {x : Int} {n : Nat} (h : pwO x n = false) : ∀ m, n ≤ m → pwO x m = false := by
  intro m hm
  induction m with
  | zero => have e0 : n = 0 := (by omega); rw [e0] at h; exact h
  | succ m ih =>
    by_cases e : n = m + 1
    · rw [← e]; exact h
    · unfold pwO; rw [ih (by omega)]; rfl
def pwk (x n : Int) : Bool := bif decide (n < 0) then false else (bif decide (256 < n) then false else pwO x n.toNat)
def pwv (x n : Int) : Int := bif pwk x n then x ^ n.toNat else 0
/-- where the loop stands -/
def PwI (x n o k : Int) : Prop := 0 ≤ k ∧ k ≤ n ∧ n ≤ 256 ∧ o = x ^ k.toNat ∧ pwO x k.toNat = true ∧ InI o
theorem PwI.io {x n o k : Int} (h : PwI x n o k) : InI o := h.2.2.2.2.2
theorem PwI.begin {x n : Int} (h0 : 0 ≤ n) (h : n ≤ 256) : PwI x n 1 0 := ⟨by omega, h0, h, by simp, rfl, by unfold InI b255; omega⟩
theorem PwI.next {x n o k p : Int} (h : PwI x n o k) (hk : k < n) (e : mulv o x = p) (ok : okI (o * x) = true) : PwI x n p (wrap64 (k + 1)) := by
  obtain ⟨h0, h1, h2, h3, h4, h5⟩ := h
  have e1 : wrap64 (k + 1) = k + 1 := wrap64_id (by unfold In64; omega)
  have e2 : (k + 1).toNat = k.toNat + 1 := by omega
  have e3 : o * x = p := mulv_okb ok e
  rw [e1]
  refine ⟨by omega, by omega, h2, ?_, ?_, ?_⟩
  · rw [e2, Int.pow_succ, ← h3, e3]
  · rw [e2]; unfold pwO; rw [h4, ← h3, ok]; rfl
  · rw [← e3]; unfold okI at ok; exact of_decide_eq_true ok
theorem PwI.w {x n o k : Int} (h : PwI x n o k) (hk : k < n) : wrap64 (k + 1) = k + 1 := by obtain ⟨h0, h1, h2, h3, h4, h5⟩ := h; exact wrap64_id (by unfold In64; omega)
theorem PwI.no {x n o k : Int} (h : PwI x n o k) (hk : k < n) (ok : okI (o * x) = false) : pwk x n = false := by
  obtain ⟨h0, h1, h2, h3, h4, h5⟩ := h
  unfold pwk
  rw [decide_eq_false (show ¬ n < 0 by omega), decide_eq_false (show ¬ 256 < n by omega)]
  have : pwO x (k.toNat + 1) = false := by unfold pwO; rw [← h3, ok, Bool.and_false]
  exact pwO_lt this _ (by omega)
theorem PwI.yes {x n o k : Int} (h : PwI x n o k) (hk : ¬ k < n) : pwk x n = true ∧ pwv x n = o := by
  obtain ⟨h0, h1, h2, h3, h4, h5⟩ := h
  obtain rfl : k = n := by omega
  have : pwk x k = true := by
    unfold pwk
    rw [decide_eq_false (show ¬ k < 0 by omega), decide_eq_false (show ¬ 256 < k by omega)]; exact h4
  exact ⟨this, by unfold pwv; rw [this, h3]; rfl⟩
theorem pw_zero {x n : Int} (h : pwk x n = false) : pwv x n = 0 := by unfold pwv; rw [h]; rfl

set_option maxRecDepth 100000 in
set_option maxHeartbeats 4000000 in

theorem Power_g (x : Int) (n : Int)  (R0 : Int) (R1 : Bool) (hR0 : pwv x n = R0) (hR1 : pwk x n = R1) (hP0 : decide (n < 0) = false) (hP1 : decide (256 < n) = false) (_ix : InI x) (_in : In64 n)  (w : World)  :
    Calls Tryd.prog 26 #[.agg #[.int .u64 (wd0 x), .int .u64 (wd1 x), .int .u64 (wd2 x), .int .u64 (wd3 x)], .int .i64 n] w fun e w' => e = .returned (.tuple #[.agg #[.int .u64 (wd0 R0), .int .u64 (wd1 R0), .int .u64 (wd2 R0), .int .u64 (wd3 R0)], .bool R1]) ∧ Below w.heap.size w w' := by

  have HR0 := Lib.hid hR0
  clear hR0
  have HR1 := Lib.hid hR1
  clear hR1
  go_enter Tryd.func26, Tryd.ntmps26
  go_wp2_with fail
  first | refine calls_w ?_ | refine name_world ?_ | refine list_world ?_ | refine post_world ?_
  intro V1 hV1
  have hn : Below w.heap.size w V1 := by rw [hV1]; exact below_a2 _ _ _
  have nhb0 := hn
  have k1 : Blk V1 w.heap.size #[.int .u64 (wd0 x), .int .u64 (wd1 x), .int .u64 (wd2 x), .int .u64 (wd3 x)] 24 := by rw [hV1]; exact ((Blk.new _ _ _).alloc _)
  have k2 : Blk V1 (w.heap.size + 1) #[.int .u64 0, .int .u64 0, .int .u64 0, .int .u64 0] 24 := by rw [hV1]; exact (Blk.new1 _ _ _ _)
  clear hV1
  have hb0 := nhb0
  clear nhb0
  refine (Of_v 1 1 rfl (by unfold In64; omega) _).mono ?_
  rintro e U2 ⟨rfl, hn⟩
  replace k1 := k1.of hn
  replace k2 := k2.of hn
  replace hb0 := hb0.trans (hn.mono hb0.size)
  clear hn
  go_wp2_with fail
  first | refine name_world ?_
  intro V3 hV3
  have D1 := Lib.hid k1.lt
  have D2 := Lib.hid k2.lt
  have D3 := Lib.hid hb0.size
  have hn : Below U2.heap.size U2 V3 := by rw [hV3]; exact below_a1 _ _
  have nk1 := k1.of hn
  have nk2 := k2.of hn
  have nhb0 := hb0.trans (hn.mono hb0.size)
  clear hn
  have k3 : Blk V3 U2.heap.size #[.int .u64 (wd0 1), .int .u64 (wd1 1), .int .u64 (wd2 1), .int .u64 (wd3 1)] 24 := by rw [hV3]; exact (Blk.new _ _ _)
  clear k1 k2
  clear hb0
  clear hV3
  have k1 := nk1
  clear nk1
  have k2 := nk2
  clear nk2
  have hb0 := nhb0
  clear nhb0
  go_loopg [17] (n.toNat) (fun gk_ s1_0 wr => ∃ (o : Int) (k : Int), s1_0 = .int .i64 k ∧ Hid (PwI x n o k ∧ n - k ≤ (gk_ : Int)) ∧ Blk wr w.heap.size #[.int .u64 (wd0 x), .int .u64 (wd1 x), .int .u64 (wd2 x), .int .u64 (wd3 x)] 24 ∧ Blk wr (w.heap.size + 1) #[.int .u64 0, .int .u64 0, .int .u64 0, .int .u64 0] 24 ∧ Blk wr U2.heap.size #[.int .u64 (wd0 o), .int .u64 (wd1 o), .int .u64 (wd2 o), .int .u64 (wd3 o)] 24 ∧ Below w.heap.size w wr)
  case atStart =>
    have HIn : PwI x n 1 0 ∧ n - 0 ≤ ((n.toNat) : Int) := by
      exact ⟨PwI.begin (by simpa using hP0) (by simpa using hP1), by omega⟩
    exact ⟨1, 0, rfl, Lib.hid HIn, k1, k2, k3, hb0⟩
  case round =>
    rename World => W1_
    rename Nat => gk1
    clear k1 k2 k3
    clear hb0
    obtain ⟨o, k, rfl, HI1, k1, k2, k3, hb0⟩ := hrel
    obtain ⟨z1, hz1⟩ : ∃ o_o : Bool, decide (k < n) = o_o := ⟨_, rfl⟩
    cases z1
    · have c2_0 : W1_.cell? ⟨(w.heap.size + 1), 0, none⟩ = some (.int .u64 0) := k2.cell 0
      have c2_1 : W1_.cell? ⟨(w.heap.size + 1), 1, none⟩ = some (.int .u64 0) := k2.cell 1
      have c2_2 : W1_.cell? ⟨(w.heap.size + 1), 2, none⟩ = some (.int .u64 0) := k2.cell 2
      have c2_3 : W1_.cell? ⟨(w.heap.size + 1), 3, none⟩ = some (.int .u64 0) := k2.cell 3
      have f2_0 := k2.free 0
      have f2_1 := k2.free 1
      have f2_2 := k2.free 2
      have f2_3 := k2.free 3
      have l2 := k2.lt
      have c3_0 : W1_.cell? ⟨U2.heap.size, 0, none⟩ = some (.int .u64 (wd0 o)) := k3.cell 0
      have c3_1 : W1_.cell? ⟨U2.heap.size, 1, none⟩ = some (.int .u64 (wd1 o)) := k3.cell 1
      have c3_2 : W1_.cell? ⟨U2.heap.size, 2, none⟩ = some (.int .u64 (wd2 o)) := k3.cell 2
      have c3_3 : W1_.cell? ⟨U2.heap.size, 3, none⟩ = some (.int .u64 (wd3 o)) := k3.cell 3
      have l3 := k3.lt
      have p3_2 : U2.heap.size ≠ (w.heap.size + 1) := (by have := D2.out; omega)
      have e0 : o = R0 := by rw [← HR0.out]; first | exact (HI1.out.1.yes (of_decide_eq_false hz1)).2.symm | exact (pw_zero (HI1.out.1.no (of_decide_eq_true hz1) Hz3.out)).symm
      have e1 : true = R1 := by rw [← HR1.out]; first | exact (HI1.out.1.yes (of_decide_eq_false hz1)).1.symm | exact (HI1.out.1.no (of_decide_eq_true hz1) Hz3.out).symm
      subst e0
      subst e1
      go_wp2
      clear c2_0 c2_1 c2_2 c2_3 f2_0 f2_1 f2_2 f2_3 l2 c3_0 c3_1 c3_2 c3_3 l3 p3_2
      first | refine post_world ?_
      intro V4 hV4
      clear k1 k3
      have D4 := Lib.hid k2.lt
      have D5 := Lib.hid hb0.size
      have nk2 : Blk V4 (w.heap.size + 1) #[.int .u64 (wd0 o), .int .u64 (wd1 o), .int .u64 (wd2 o), .int .u64 (wd3 o)] 24 := by rw [hV4]; exact (blk_full _ [.int .u64 (wd0 o), .int .u64 (wd1 o), .int .u64 (wd2 o), .int .u64 (wd3 o)] k2 rfl)
      have nhb0 : Below w.heap.size w V4 := by rw [hV4]; exact (blw_setL hb0 (by omega) 0 [.int .u64 (wd0 o), .int .u64 (wd1 o), .int .u64 (wd2 o), .int .u64 (wd3 o)])
      clear k2
      clear hb0
      clear hV4
      have k2 := nk2
      clear nk2
      have hb0 := nhb0
      clear nhb0
      have g2_0 : V4.cell? ⟨(w.heap.size + 1), 0, none⟩ = some (.int .u64 (wd0 o)) := k2.cell 0
      have g2_1 : V4.cell? ⟨(w.heap.size + 1), 1, none⟩ = some (.int .u64 (wd1 o)) := k2.cell 1
      have g2_2 : V4.cell? ⟨(w.heap.size + 1), 2, none⟩ = some (.int .u64 (wd2 o)) := k2.cell 2
      have g2_3 : V4.cell? ⟨(w.heap.size + 1), 3, none⟩ = some (.int .u64 (wd3 o)) := k2.cell 3
      clear k2
      simp [bodyPost, results, Tryd.results26, go_sem, g2_0, g2_1, g2_2, g2_3]
      first | exact hb0 | exact ⟨rfl, hb0⟩
    · have c1_0 : W1_.cell? ⟨w.heap.size, 0, none⟩ = some (.int .u64 (wd0 x)) := k1.cell 0
      have c1_1 : W1_.cell? ⟨w.heap.size, 1, none⟩ = some (.int .u64 (wd1 x)) := k1.cell 1
      have c1_2 : W1_.cell? ⟨w.heap.size, 2, none⟩ = some (.int .u64 (wd2 x)) := k1.cell 2
      have c1_3 : W1_.cell? ⟨w.heap.size, 3, none⟩ = some (.int .u64 (wd3 x)) := k1.cell 3
      have l1 := k1.lt
      have c3_0 : W1_.cell? ⟨U2.heap.size, 0, none⟩ = some (.int .u64 (wd0 o)) := k3.cell 0
      have c3_1 : W1_.cell? ⟨U2.heap.size, 1, none⟩ = some (.int .u64 (wd1 o)) := k3.cell 1
      have c3_2 : W1_.cell? ⟨U2.heap.size, 2, none⟩ = some (.int .u64 (wd2 o)) := k3.cell 2
      have c3_3 : W1_.cell? ⟨U2.heap.size, 3, none⟩ = some (.int .u64 (wd3 o)) := k3.cell 3
      have l3 := k3.lt
      go_wp2_with fail
      clear c1_0 c1_1 c1_2 c1_3 l1 c3_0 c3_1 c3_2 c3_3 l3
      obtain ⟨r2, hr2⟩ : ∃ o_o : Int, mulv o x = o_o := ⟨_, rfl⟩
      have Hr2 := Lib.hid hr2
      clear hr2
      obtain ⟨z3, hz3⟩ : ∃ o_o : Bool, okI (o * x) = o_o := ⟨_, rfl⟩
      have Hz3 := Lib.hid hz3
      clear hz3
      refine (Mul_v o x r2 z3 Hr2.out Hz3.out HI1.out.1.io _ix _).mono ?_
      rintro e U5 ⟨rfl, hn⟩
      replace k1 := k1.of hn
      replace k2 := k2.of hn
      replace k3 := k3.of hn
      replace hb0 := hb0.trans (hn.mono hb0.size)
      clear hn
      cases z3
      · have c2_0 : U5.cell? ⟨(w.heap.size + 1), 0, none⟩ = some (.int .u64 0) := k2.cell 0
        have c2_1 : U5.cell? ⟨(w.heap.size + 1), 1, none⟩ = some (.int .u64 0) := k2.cell 1
        have c2_2 : U5.cell? ⟨(w.heap.size + 1), 2, none⟩ = some (.int .u64 0) := k2.cell 2
        have c2_3 : U5.cell? ⟨(w.heap.size + 1), 3, none⟩ = some (.int .u64 0) := k2.cell 3
        have f2_0 := k2.free 0
        have f2_1 := k2.free 1
        have f2_2 := k2.free 2
        have f2_3 := k2.free 3
        have l2 := k2.lt
        have c3_0 : U5.cell? ⟨U2.heap.size, 0, none⟩ = some (.int .u64 (wd0 o)) := k3.cell 0
        have c3_1 : U5.cell? ⟨U2.heap.size, 1, none⟩ = some (.int .u64 (wd1 o)) := k3.cell 1
        have c3_2 : U5.cell? ⟨U2.heap.size, 2, none⟩ = some (.int .u64 (wd2 o)) := k3.cell 2
        have c3_3 : U5.cell? ⟨U2.heap.size, 3, none⟩ = some (.int .u64 (wd3 o)) := k3.cell 3
        have f3_0 := k3.free 0
        have f3_1 := k3.free 1
        have f3_2 := k3.free 2
        have f3_3 := k3.free 3
        have l3 := k3.lt
        have p2_3 : (w.heap.size + 1) ≠ U2.heap.size := (by have := D2.out; omega)
        have e0 : 0 = R0 := by rw [← HR0.out]; first | exact (HI1.out.1.yes (of_decide_eq_false hz1)).2.symm | exact (pw_zero (HI1.out.1.no (of_decide_eq_true hz1) Hz3.out)).symm
        have e1 : false = R1 := by rw [← HR1.out]; first | exact (HI1.out.1.yes (of_decide_eq_false hz1)).1.symm | exact (HI1.out.1.no (of_decide_eq_true hz1) Hz3.out).symm
        subst e0
        subst e1
        go_wp2
        clear c2_0 c2_1 c2_2 c2_3 f2_0 f2_1 f2_2 f2_3 l2 c3_0 c3_1 c3_2 c3_3 f3_0 f3_1 f3_2 f3_3 l3 p2_3
        first | refine post_world ?_
        intro V6 hV6
        have D6 := Lib.hid k1.lt
        have D7 := Lib.hid k2.lt
        have D8 := Lib.hid k3.lt
        have D9 := Lib.hid hb0.size
        clear k1 k3
        have nk2 : Blk V6 (w.heap.size + 1) #[.int .u64 0, .int .u64 0, .int .u64 0, .int .u64 0] 24 := by rw [hV6]; exact (blk_full _ [.int .u64 0, .int .u64 0, .int .u64 0, .int .u64 0] (blk_setL k2 (by have := D2.out; omega) 0 [.int .u64 (wd0 r2), .int .u64 (wd1 r2), .int .u64 (wd2 r2), .int .u64 (wd3 r2)]) rfl)
        have nhb0 : Below w.heap.size w V6 := by rw [hV6]; exact (blw_setL (blw_setL hb0 (by have := D3.out; omega) 0 [.int .u64 (wd0 r2), .int .u64 (wd1 r2), .int .u64 (wd2 r2), .int .u64 (wd3 r2)]) (by omega) 0 [.int .u64 0, .int .u64 0, .int .u64 0, .int .u64 0])
        clear k2
        clear hb0
        clear hV6
        have k2 := nk2
        clear nk2
        have hb0 := nhb0
        clear nhb0
        have g2_0 : V6.cell? ⟨(w.heap.size + 1), 0, none⟩ = some (.int .u64 0) := k2.cell 0
        have g2_1 : V6.cell? ⟨(w.heap.size + 1), 1, none⟩ = some (.int .u64 0) := k2.cell 1
        have g2_2 : V6.cell? ⟨(w.heap.size + 1), 2, none⟩ = some (.int .u64 0) := k2.cell 2
        have g2_3 : V6.cell? ⟨(w.heap.size + 1), 3, none⟩ = some (.int .u64 0) := k2.cell 3
        clear k2
        simp [bodyPost, results, Tryd.results26, go_sem, g2_0, g2_1, g2_2, g2_3, wd0_0, wd1_0, wd2_0, wd3_0]
        first | exact hb0 | exact ⟨rfl, hb0⟩
      · have c3_0 : U5.cell? ⟨U2.heap.size, 0, none⟩ = some (.int .u64 (wd0 o)) := k3.cell 0
        have c3_1 : U5.cell? ⟨U2.heap.size, 1, none⟩ = some (.int .u64 (wd1 o)) := k3.cell 1
        have c3_2 : U5.cell? ⟨U2.heap.size, 2, none⟩ = some (.int .u64 (wd2 o)) := k3.cell 2
        have c3_3 : U5.cell? ⟨U2.heap.size, 3, none⟩ = some (.int .u64 (wd3 o)) := k3.cell 3
        have f3_0 := k3.free 0
        have f3_1 := k3.free 1
        have f3_2 := k3.free 2
        have f3_3 := k3.free 3
        have l3 := k3.lt
        go_wp2_with fail
        clear c3_0 c3_1 c3_2 c3_3 f3_0 f3_1 f3_2 f3_3 l3
        first | refine k_world ?_
        intro V7 hV7
        have D10 := Lib.hid k1.lt
        have D11 := Lib.hid k2.lt
        have D12 := Lib.hid k3.lt
        have D13 := Lib.hid hb0.size
        have nk1 : Blk V7 w.heap.size #[.int .u64 (wd0 x), .int .u64 (wd1 x), .int .u64 (wd2 x), .int .u64 (wd3 x)] 24 := by rw [hV7]; exact (blk_setL k1 (by have := D1.out; omega) 0 [.int .u64 (wd0 r2), .int .u64 (wd1 r2), .int .u64 (wd2 r2), .int .u64 (wd3 r2)])
        have nk2 : Blk V7 (w.heap.size + 1) #[.int .u64 0, .int .u64 0, .int .u64 0, .int .u64 0] 24 := by rw [hV7]; exact (blk_setL k2 (by have := D2.out; omega) 0 [.int .u64 (wd0 r2), .int .u64 (wd1 r2), .int .u64 (wd2 r2), .int .u64 (wd3 r2)])
        have nk3 : Blk V7 U2.heap.size #[.int .u64 (wd0 r2), .int .u64 (wd1 r2), .int .u64 (wd2 r2), .int .u64 (wd3 r2)] 24 := by rw [hV7]; exact (blk_full _ [.int .u64 (wd0 r2), .int .u64 (wd1 r2), .int .u64 (wd2 r2), .int .u64 (wd3 r2)] k3 rfl)
        have nhb0 : Below w.heap.size w V7 := by rw [hV7]; exact (blw_setL hb0 (by have := D3.out; omega) 0 [.int .u64 (wd0 r2), .int .u64 (wd1 r2), .int .u64 (wd2 r2), .int .u64 (wd3 r2)])
        clear k1 k2 k3
        clear hb0
        clear hV7
        have k1 := nk1
        clear nk1
        have k2 := nk2
        clear nk2
        have k3 := nk3
        clear nk3
        have hb0 := nhb0
        clear nhb0
        have HIn : PwI x n r2 (wrap64 (k + 1)) ∧ n - (wrap64 (k + 1)) ≤ (((n - (wrap64 (k + 1))).toNat) : Int) := by
          exact ⟨HI1.out.1.next (of_decide_eq_true hz1) Hr2.out Hz3.out, by omega⟩
        go_roundg ((n - (wrap64 (k + 1))).toNat)
        case measure =>
          rw [HI1.out.1.w (of_decide_eq_true hz1)]
          have q_ := of_decide_eq_true hz1
          have q2_ := HI1.out.2
          omega
        case rel => exact ⟨r2, (wrap64 (k + 1)), rfl, Lib.hid HIn, k1, k2, k3, hb0⟩

set_option maxRecDepth 100000 in
set_option maxHeartbeats 4000000 in

theorem Power_0 (x : Int) (n : Int)  (R0 : Int) (R1 : Bool) (hR0 : (fun _ _ => 0) x n = R0) (hR1 : (fun _ _ => false) x n = R1) (hP0 : decide (n < 0) = true) (_ix : InI x) (_in : In64 n)  (w : World)  :
    Calls Tryd.prog 26 #[.agg #[.int .u64 (wd0 x), .int .u64 (wd1 x), .int .u64 (wd2 x), .int .u64 (wd3 x)], .int .i64 n] w fun e w' => e = .returned (.tuple #[.agg #[.int .u64 (wd0 R0), .int .u64 (wd1 R0), .int .u64 (wd2 R0), .int .u64 (wd3 R0)], .bool R1]) ∧ Below w.heap.size w w' := by

  have HR0 := Lib.hid hR0
  clear hR0
  have HR1 := Lib.hid hR1
  clear hR1
  go_enter Tryd.func26, Tryd.ntmps26
  have e0 : 0 = R0 := by rw [← HR0.out]; all_goals first | rfl | simp
  have e1 : false = R1 := by rw [← HR1.out]; all_goals first | rfl | simp
  subst e0
  subst e1
  go_wp2
  first | refine post_world ?_
  intro V1 hV1
  have hn : Below w.heap.size w V1 := by rw [hV1]; exact below_a2 _ _ _
  have nhb0 := hn
  have k2 : Blk V1 (w.heap.size + 1) #[.int .u64 0, .int .u64 0, .int .u64 0, .int .u64 0] 24 := by rw [hV1]; exact (Blk.new1 _ _ _ _)
  clear hV1
  have hb0 := nhb0
  clear nhb0
  have g2_0 : V1.cell? ⟨(w.heap.size + 1), 0, none⟩ = some (.int .u64 0) := k2.cell 0
  have g2_1 : V1.cell? ⟨(w.heap.size + 1), 1, none⟩ = some (.int .u64 0) := k2.cell 1
  have g2_2 : V1.cell? ⟨(w.heap.size + 1), 2, none⟩ = some (.int .u64 0) := k2.cell 2
  have g2_3 : V1.cell? ⟨(w.heap.size + 1), 3, none⟩ = some (.int .u64 0) := k2.cell 3
  clear k2
  simp [bodyPost, results, Tryd.results26, go_sem, g2_0, g2_1, g2_2, g2_3, wd0_0, wd1_0, wd2_0, wd3_0]
  first | exact hb0 | exact ⟨rfl, hb0⟩

set_option maxRecDepth 100000 in
set_option maxHeartbeats 4000000 in

theorem Power_1 (x : Int) (n : Int)  (R0 : Int) (R1 : Bool) (hR0 : (fun _ _ => 0) x n = R0) (hR1 : (fun _ _ => false) x n = R1) (hP0 : decide (n < 0) = false) (hP1 : decide (256 < n) = true) (_ix : InI x) (_in : In64 n)  (w : World)  :
    Calls Tryd.prog 26 #[.agg #[.int .u64 (wd0 x), .int .u64 (wd1 x), .int .u64 (wd2 x), .int .u64 (wd3 x)], .int .i64 n] w fun e w' => e = .returned (.tuple #[.agg #[.int .u64 (wd0 R0), .int .u64 (wd1 R0), .int .u64 (wd2 R0), .int .u64 (wd3 R0)], .bool R1]) ∧ Below w.heap.size w w' := by

  have HR0 := Lib.hid hR0
  clear hR0
  have HR1 := Lib.hid hR1
  clear hR1
  go_enter Tryd.func26, Tryd.ntmps26
  have e0 : 0 = R0 := by rw [← HR0.out]; all_goals first | rfl | simp
  have e1 : false = R1 := by rw [← HR1.out]; all_goals first | rfl | simp
  subst e0
  subst e1
  go_wp2
  first | refine post_world ?_
  intro V1 hV1
  have hn : Below w.heap.size w V1 := by rw [hV1]; exact below_a2 _ _ _
  have nhb0 := hn
  have k2 : Blk V1 (w.heap.size + 1) #[.int .u64 0, .int .u64 0, .int .u64 0, .int .u64 0] 24 := by rw [hV1]; exact (Blk.new1 _ _ _ _)
  clear hV1
  have hb0 := nhb0
  clear nhb0
  have g2_0 : V1.cell? ⟨(w.heap.size + 1), 0, none⟩ = some (.int .u64 0) := k2.cell 0
  have g2_1 : V1.cell? ⟨(w.heap.size + 1), 1, none⟩ = some (.int .u64 0) := k2.cell 1
  have g2_2 : V1.cell? ⟨(w.heap.size + 1), 2, none⟩ = some (.int .u64 0) := k2.cell 2
  have g2_3 : V1.cell? ⟨(w.heap.size + 1), 3, none⟩ = some (.int .u64 0) := k2.cell 3
  clear k2
  simp [bodyPost, results, Tryd.results26, go_sem, g2_0, g2_1, g2_2, g2_3, wd0_0, wd1_0, wd2_0, wd3_0]
  first | exact hb0 | exact ⟨rfl, hb0⟩

theorem Power_v (x n p : Int) (k : Bool) (hp : pwv x n = p) (hk : pwk x n = k) (ix : InI x) (i_n : In64 n) (w : World) :
    Calls Tryd.prog 26 #[wI x, .int .i64 n] w fun e w' => e = .returned (.tuple #[wI p, .bool k]) ∧ Below w.heap.size w w' := by
  by_cases h : n < 0
  · have e2 : pwk x n = false := by unfold pwk; rw [decide_eq_true h]; rfl
    exact Power_0 x n p k ((pw_zero e2).symm.trans hp) (e2.symm.trans hk) (decide_eq_true h) ix i_n w
  · by_cases g : 256 < n
    · have e2 : pwk x n = false := by unfold pwk; rw [decide_eq_false h, decide_eq_true g]; rfl
      exact Power_1 x n p k ((pw_zero e2).symm.trans hp) (e2.symm.trans hk) (decide_eq_false h) (decide_eq_true g) ix i_n w
    · exact Power_g x n p k hp hk (decide_eq_false h) (decide_eq_false g) ix i_n w
end Go.Proofs.YtcfiemeknocgjaaDoor
