/- The plain laws of package cross: its spots, sides and slopes are the document's. Conditions: the numbers are ints and numbers of 256 bits. -/
import Derived.Test.YtlcbomjdbdgbmaaCr8
import Derived.Test.YtlcbomjdbdgbmaaCr4
namespace Go.Proofs.Ytlcbomjdbdgbmaa
open Go.RowKit

theorem rp_true {x y : Int} (h : rp x y = true) : Co x ∧ Co y := rp_co h
theorem sg_true {ax ay bx b_y : Int} (h : sgR ax ay bx b_y = true) : rp ax ay = true ∧ rp bx b_y = true := by
  unfold sgR at h
  cases h1 : rp ax ay
  · rw [h1] at h; cases h
  · rw [h1] at h; exact ⟨rfl, h⟩
theorem crR_eq (ax ay bx b_y : Int) : crR ax ay bx b_y = sgR ax ay bx b_y := rfl
theorem co_64 {x : Int} (h : Co x) : In64 x := by unfold Co at h; unfold In64; omega
theorem co_wrap {x y : Int} (hx : Co x) (hy : Co y) : wrap64 (x - y) = x - y := wrap64_id (by unfold Co at hx hy; unfold In64; omega)
theorem mul_64 {a b : Int} (ha : In64 a) (hb : In64 b) : -85070591730234615865843651857942052864 ≤ a * b ∧ a * b ≤ 85070591730234615865843651857942052864 :=
  mul_bd (a := 9223372036854775808) (b := 9223372036854775808) (by decide) (by unfold In64 at ha; omega) (by unfold In64 at hb; omega)
theorem mulv_64 {a b : Int} (ha : In64 a) (hb : In64 b) : mulv a b = a * b := mulv_id (by have := mul_64 ha hb; unfold InI b255; omega)
theorem subv_64 {a b c d : Int} (ha : In64 a) (hb : In64 b) (hc : In64 c) (hd : In64 d) : subv (a * b) (c * d) = a * b - c * d := subv_id (by
  have h1 := mul_64 ha hb
  have h2 := mul_64 hc hd
  generalize a * b = p at *
  generalize c * d = q at *
  unfold InI b255; omega)
theorem wyx_64 (ax ay bx b_y : Int) : In64 (wyx ax ay bx b_y) := wrap64_in _
theorem wyy_64 (ax ay bx b_y : Int) : In64 (wyy ax ay bx b_y) := wrap64_in _
theorem sign_wrap (x : Int) : wrap64 (-x.sign) = -x.sign := wrap64_id (by
  rcases Int.lt_trichotomy x 0 with h | h | h
  · rw [Int.sign_eq_neg_one_of_neg h]; decide
  · rw [h]; decide
  · rw [Int.sign_eq_one_of_pos h]; decide)

theorem slp_eq {ax ay bx b_y cx cy dx dy : Int} (h1 : sgR ax ay bx b_y = true) (h2 : sgR cx cy dx dy = true) :
    slp ax ay bx b_y cx cy dx dy = (wyx cx cy dx dy * wyy ax ay bx b_y - wyy cx cy dx dy * wyx ax ay bx b_y).sign := by
  unfold slp
  rw [h1, h2, cond_true, cond_true, mulv_64 (wyx_64 _ _ _ _) (wyy_64 _ _ _ _), mulv_64 (wyy_64 _ _ _ _) (wyx_64 _ _ _ _), subv_64 (wyx_64 _ _ _ _) (wyy_64 _ _ _ _) (wyy_64 _ _ _ _) (wyx_64 _ _ _ _)]
theorem slp_0 {ax ay bx b_y cx cy dx dy : Int} (h : sgR ax ay bx b_y = false ∨ sgR cx cy dx dy = false) : slp ax ay bx b_y cx cy dx dy = 0 := by
  unfold slp
  rcases h with h | h
  · rw [h]; rfl
  · rw [h]; cases sgR ax ay bx b_y <;> rfl

/-- the spots that are right, in numbers -/
theorem sp_most {v : Int} (h0 : 0 < v) (h1 : v ≤ 1237940039285380274899124224) : mulv v 2199023255552 = 2199023255552 * v ∧ subv 0 (2199023255552 * v) = -(2199023255552 * v) := by
  refine ⟨?_, ?_⟩
  · rw [mulv_id (by unfold InI b255; omega)]; omega
  · rw [subv_id (by unfold InI b255; omega)]; omega
theorem most90 : mulv 35184372088832 35184372088832 = 1237940039285380274899124224 := by decide
theorem spR_eq (x y v : Int) : spR x y v = rspR x y v := by
  unfold spR rspR
  rw [most90]
  by_cases h0 : v.sign ≤ 0
  · rw [decide_eq_true h0]; rfl
  · rw [decide_eq_false h0]
    by_cases h1 : 0 < cmpI v 1237940039285380274899124224
    · rw [decide_eq_true h1]; rfl
    · rw [decide_eq_false h1]
      have p0 : 0 < v := by
        rcases Int.lt_trichotomy v 0 with h | h | h
        · exact absurd (by rw [Int.sign_eq_neg_one_of_neg h]; decide) h0
        · exact absurd (by rw [h]; decide) h0
        · exact h
      have p1 : v ≤ 1237940039285380274899124224 := by
        rcases Int.lt_trichotomy v 1237940039285380274899124224 with h | h | h
        · omega
        · omega
        · exact absurd (by rw [cmpI_gt h]; decide) h1
      obtain ⟨e1, e2⟩ := sp_most p0 p1
      rw [e1, e2]
theorem cmp_le0 {a b : Int} : decide (cmpI a b ≤ 0) = decide (a ≤ b) := by
  rcases Int.lt_trichotomy a b with h | h | h
  · rw [cmpI_lt h, decide_eq_true (show a ≤ b by omega)]; rfl
  · subst h; rw [cmpI_eq, decide_eq_true (Int.le_refl a)]; rfl
  · rw [cmpI_gt h, decide_eq_false (show ¬ a ≤ b by omega)]; rfl
theorem cmp_ge0 {a b : Int} : decide (0 ≤ cmpI a b) = decide (b ≤ a) := by
  rcases Int.lt_trichotomy a b with h | h | h
  · rw [cmpI_lt h, decide_eq_false (show ¬ b ≤ a by omega)]; rfl
  · subst h; rw [cmpI_eq, decide_eq_true (Int.le_refl a)]; rfl
  · rw [cmpI_gt h, decide_eq_true (show b ≤ a by omega)]; rfl
theorem cmp_gt0 {a b : Int} : decide (0 < cmpI a b) = decide (b < a) := by
  rcases Int.lt_trichotomy a b with h | h | h
  · rw [cmpI_lt h, decide_eq_false (show ¬ b < a by omega)]; rfl
  · subst h; rw [cmpI_eq, decide_eq_false (show ¬ a < a by omega)]; rfl
  · rw [cmpI_gt h, decide_eq_true h]; rfl
theorem cmp_lt0 {a b : Int} : decide (cmpI a b < 0) = decide (a < b) := by
  rcases Int.lt_trichotomy a b with h | h | h
  · rw [cmpI_lt h, decide_eq_true h]; rfl
  · subst h; rw [cmpI_eq, decide_eq_false (show ¬ a < a by omega)]; rfl
  · rw [cmpI_gt h, decide_eq_false (show ¬ a < b by omega)]; rfl
theorem sign_le0 {x : Int} : decide (x.sign ≤ 0) = decide (x ≤ 0) := by rw [← cmpI_sign, cmp_le0]
structure SpOk (x y v : Int) : Prop where
  v0 : 0 < v
  v1 : v ≤ 1237940039285380274899124224
  x0 : -(2199023255552 * v) ≤ x
  x1 : x ≤ 2199023255552 * v
  y0 : -(2199023255552 * v) ≤ y
  y1 : y ≤ 2199023255552 * v
theorem sp_ok {x y v : Int} (h : rspR x y v = true) : SpOk x y v := by
  unfold rspR at h
  rw [sign_le0, cmp_gt0, cmp_ge0, cmp_le0, cmp_ge0, cmp_le0] at h
  by_cases h0 : v ≤ 0
  · rw [decide_eq_true h0] at h; cases h
  · rw [decide_eq_false h0] at h
    by_cases h1 : 1237940039285380274899124224 < v
    · rw [decide_eq_true h1] at h; cases h
    · rw [decide_eq_false h1] at h
      by_cases h2 : -(2199023255552 * v) ≤ x
      · by_cases h3 : x ≤ 2199023255552 * v
        · by_cases h4 : -(2199023255552 * v) ≤ y
          · rw [decide_eq_true h2, decide_eq_true h3, decide_eq_true h4] at h
            exact ⟨by omega, by omega, h2, h3, h4, of_decide_eq_true h⟩
          · rw [decide_eq_true h2, decide_eq_true h3, decide_eq_false h4] at h; cases h
        · rw [decide_eq_true h2, decide_eq_false h3] at h; cases h
      · rw [decide_eq_false h2] at h; cases h
theorem ok_sp {x y v : Int} (h : SpOk x y v) : rspR x y v = true := by
  unfold rspR
  rw [sign_le0, cmp_gt0, cmp_ge0, cmp_le0, cmp_ge0, cmp_le0, decide_eq_false (show ¬ v ≤ 0 by have := h.v0; omega), decide_eq_false (show ¬ 1237940039285380274899124224 < v by have := h.v1; omega), decide_eq_true h.x0, decide_eq_true h.x1, decide_eq_true h.y0, decide_eq_true h.y1]
  rfl
theorem SpOk.xb {x y v : Int} (h : SpOk x y v) : -2722258935367507707706996859454145691648 ≤ x ∧ x ≤ 2722258935367507707706996859454145691648 := by
  have := h.v1; have := h.x0; have := h.x1; omega
theorem SpOk.yb {x y v : Int} (h : SpOk x y v) : -2722258935367507707706996859454145691648 ≤ y ∧ y ≤ 2722258935367507707706996859454145691648 := by
  have := h.v1; have := h.y0; have := h.y1; omega
theorem mulv_xv {x v : Int} (hx : -2722258935367507707706996859454145691648 ≤ x ∧ x ≤ 2722258935367507707706996859454145691648) (h0 : 0 < v) (h1 : v ≤ 1237940039285380274899124224) : mulv x v = x * v :=
  mulv_id (by have := mul_bd (by decide) hx (show -1237940039285380274899124224 ≤ v ∧ v ≤ 1237940039285380274899124224 by omega); unfold InI b255; omega)
theorem spC_eq {x y v x2 y2 v2 : Int} (h1 : rspR x y v = true) (h2 : rspR x2 y2 v2 = true) : spC x y v x2 y2 v2 = rspC x y v x2 y2 v2 := by
  have o1 := sp_ok h1
  have o2 := sp_ok h2
  unfold spC rspC
  rw [spR_eq, spR_eq, h1, h2, cond_true, cond_true, mulv_xv o1.xb o2.v0 o2.v1, mulv_xv o2.xb o1.v0 o1.v1, mulv_xv o1.yb o2.v0 o2.v1, mulv_xv o2.yb o1.v0 o1.v1]
  rfl
theorem spC_0 {x y v x2 y2 v2 : Int} (h : rspR x y v = false ∨ rspR x2 y2 v2 = false) : spC x y v x2 y2 v2 = 0 := by
  unfold spC
  rw [spR_eq, spR_eq]
  rcases h with h | h
  · rw [h]; rfl
  · rw [h]; cases rspR x y v <;> rfl
theorem cmpI_anti (a b : Int) : cmpI b a = -cmpI a b := by
  rcases Int.lt_trichotomy a b with h | h | h
  · rw [cmpI_lt h, cmpI_gt h]; rfl
  · subst h; rw [cmpI_eq]; rfl
  · rw [cmpI_gt h, cmpI_lt h]
theorem rspC_anti (x y v x2 y2 v2 : Int) : rspC x2 y2 v2 x y v = -rspC x y v x2 y2 v2 := by
  unfold rspC
  rw [cmpI_anti (x * v2) (x2 * v), cmpI_anti (y * v2) (y2 * v)]
  generalize cmpI (x * v2) (x2 * v) = c
  generalize cmpI (y * v2) (y2 * v) = d
  by_cases h : c = 0
  · subst h; rfl
  · rw [show (c == 0) = false by simpa using h, show (-c == 0) = false by simpa using h]; rfl
theorem rspC_64 (x y v x2 y2 v2 : Int) : In64 (rspC x y v x2 y2 v2) := by unfold rspC; exact cond_64 (cmpI_64 _ _) (cmpI_64 _ _)
theorem wrap_neg_rspC (x y v x2 y2 v2 : Int) : wrap64 (-rspC x y v x2 y2 v2) = -rspC x y v x2 y2 v2 := by
  rw [← rspC_anti]; exact wrap64_id (rspC_64 _ _ _ _ _ _)
/-- a point's spot -/
theorem at_ok {x y : Int} (h : rp x y = true) : rspR x y 1 = true := by
  obtain ⟨h1, h2⟩ := rp_co h
  unfold Co at h1 h2
  exact ok_sp ⟨by omega, by omega, by omega, by omega, by omega, by omega⟩
theorem at_eqs {x y : Int} (h : rp x y = true) : atx x y = x ∧ aty x y = y ∧ atw x y = 1 := by unfold atx aty atw; rw [h]; exact ⟨rfl, rfl, rfl⟩
theorem rspC_pt {wx wy x y v : Int} : rspC wx wy 1 x y v = 0 ↔ wx * v = x ∧ wy * v = y := by
  unfold rspC
  rw [Int.mul_one, Int.mul_one]
  by_cases h : wx * v = x
  · rw [h, cmpI_eq]
    show cmpI (wy * v) y = 0 ↔ _
    by_cases g : wy * v = y
    · rw [g, cmpI_eq]; simp
    · constructor
      · intro e
        rcases Int.lt_trichotomy (wy * v) y with k | k | k
        · rw [cmpI_lt k] at e; cases e
        · exact absurd k g
        · rw [cmpI_gt k] at e; cases e
      · intro ⟨_, k⟩; exact absurd k g
  · constructor
    · intro e
      rcases Int.lt_trichotomy (wx * v) x with k | k | k
      · rw [cmpI_lt k] at e; cases e
      · exact absurd k h
      · rw [cmpI_gt k] at e; cases e
    · intro ⟨k, _⟩; exact absurd k h
end Go.Proofs.Ytlcbomjdbdgbmaa
