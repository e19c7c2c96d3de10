/- The plain laws of turns, segments and circles: what changes if points are changed. Conditions: none. -/
import Derived.Test.YtgddpkopbiendaaPntA
namespace Go.Proofs.Ytgddpkopbiendaa
open Go.RowKit

theorem trn_swap (ax ay bx b_y cx cy : Int) : trn bx b_y ax ay cx cy = -trn ax ay bx b_y cx cy := by unfold trn; grind
theorem trn_rot (ax ay bx b_y cx cy : Int) : trn bx b_y cx cy ax ay = trn ax ay bx b_y cx cy := by unfold trn; grind
theorem rp3_swap (ax ay bx b_y cx cy : Int) : rp3 bx b_y ax ay cx cy = rp3 ax ay bx b_y cx cy := by
  unfold rp3; generalize rp ax ay = a; generalize rp bx b_y = b; generalize rp cx cy = c
  cases a <;> cases b <;> cases c <;> rfl
theorem rp3_rot (ax ay bx b_y cx cy : Int) : rp3 bx b_y cx cy ax ay = rp3 ax ay bx b_y cx cy := by
  unfold rp3; generalize rp ax ay = a; generalize rp bx b_y = b; generalize rp cx cy = c
  cases a <;> cases b <;> cases c <;> rfl
theorem rp4_swap (ax ay bx b_y cx cy px py : Int) : rp4 bx b_y ax ay cx cy px py = rp4 ax ay bx b_y cx cy px py := by
  unfold rp4; generalize rp ax ay = a; generalize rp bx b_y = b; generalize rp cx cy = c
  cases a <;> cases b <;> cases c <;> rfl
theorem rp4_rot (ax ay bx b_y cx cy px py : Int) : rp4 bx b_y cx cy ax ay px py = rp4 ax ay bx b_y cx cy px py := by
  unfold rp4; generalize rp ax ay = a; generalize rp bx b_y = b; generalize rp cx cy = c
  cases a <;> cases b <;> cases c <;> rfl
theorem way_swap (ax ay bx b_y cx cy : Int) : way bx b_y ax ay cx cy = -way ax ay bx b_y cx cy := by
  unfold way; rw [rp3_swap, trn_swap, Int.sign_neg]; cases rp3 ax ay bx b_y cx cy <;> rfl
theorem way_rot (ax ay bx b_y cx cy : Int) : way bx b_y cx cy ax ay = way ax ay bx b_y cx cy := by
  unfold way; rw [rp3_rot, trn_rot]
theorem way_cases (ax ay bx b_y cx cy : Int) : way ax ay bx b_y cx cy = -1 ∨ way ax ay bx b_y cx cy = 0 ∨ way ax ay bx b_y cx cy = 1 := by
  unfold way; cases rp3 ax ay bx b_y cx cy
  · exact .inr (.inl rfl)
  · exact sign_cases _
theorem wrap_ways (ax ay bx b_y cx cy dx dy ex ey fx fy : Int) : wrap64 (way ax ay bx b_y cx cy * way dx dy ex ey fx fy) = way ax ay bx b_y cx cy * way dx dy ex ey fx fy := by
  rcases way_cases ax ay bx b_y cx cy with h | h | h <;> rcases way_cases dx dy ex ey fx fy with g | g | g <;> rw [h, g] <;> unfold wrap64 <;> omega

/-- the sum of the squares of both coordinates -/
def lft (x y : Int) : Int := x * x + y * y
theorem crs_det (ax ay bx b_y cx cy px py : Int) :
    lft ax ay * trn bx b_y cx cy px py + -(lft bx b_y * trn ax ay cx cy px py) + lft cx cy * trn ax ay bx b_y px py + -(lft px py * trn ax ay bx b_y cx cy) = crs ax ay bx b_y cx cy px py := by
  unfold crs frr trn lft; grind
theorem crs_swap (ax ay bx b_y cx cy px py : Int) : crs bx b_y ax ay cx cy px py = -crs ax ay bx b_y cx cy px py := by unfold crs frr trn; grind
theorem crs_rot (ax ay bx b_y cx cy px py : Int) : crs bx b_y cx cy ax ay px py = crs ax ay bx b_y cx cy px py := by unfold crs frr trn; grind
theorem crc_swap (ax ay bx b_y cx cy px py : Int) : crc bx b_y ax ay cx cy px py = crc ax ay bx b_y cx cy px py := by
  unfold crc; rw [rp4_swap, trn_swap, crs_swap, Int.sign_neg, Int.sign_neg, Int.neg_mul_neg]
theorem crc_rot (ax ay bx b_y cx cy px py : Int) : crc bx b_y cx cy ax ay px py = crc ax ay bx b_y cx cy px py := by
  unfold crc; rw [rp4_rot, trn_rot, crs_rot]

theorem on_lt {ax ay bx b_y px py : Int} (h : trn ax ay bx b_y px py = 0) (hl : ax < bx) :
    (ax < px ∨ ax = px ∧ ay ≤ py) ∧ (px < bx ∨ px = bx ∧ py ≤ b_y) ↔ (min ax bx ≤ px ∧ px ≤ max ax bx) ∧ min ay b_y ≤ py ∧ py ≤ max ay b_y := by
  unfold trn at h
  have hd : 0 < bx - ax := by omega
  constructor
  · intro ⟨h1, h2⟩
    have k0 : 0 ≤ px - ax := by omega
    have k1 : 0 ≤ bx - px := by omega
    refine ⟨by omega, ?_⟩
    by_cases hy : ay ≤ b_y
    · have m1 := Int.mul_nonneg (show 0 ≤ b_y - ay by omega) k0
      have m2 := Int.mul_nonneg (show 0 ≤ b_y - ay by omega) k1
      have a1 : (bx - ax) * 0 ≤ (bx - ax) * (py - ay) := by grind
      have a2 : (bx - ax) * 0 ≤ (bx - ax) * (b_y - py) := by grind
      have b1 := Int.le_of_mul_le_mul_left a1 hd
      have b2 := Int.le_of_mul_le_mul_left a2 hd
      omega
    · have m1 := Int.mul_nonneg (show 0 ≤ ay - b_y by omega) k0
      have m2 := Int.mul_nonneg (show 0 ≤ ay - b_y by omega) k1
      have a1 : (bx - ax) * 0 ≤ (bx - ax) * (ay - py) := by grind
      have a2 : (bx - ax) * 0 ≤ (bx - ax) * (py - b_y) := by grind
      have b1 := Int.le_of_mul_le_mul_left a1 hd
      have b2 := Int.le_of_mul_le_mul_left a2 hd
      omega
  · intro ⟨h1, h2⟩
    refine ⟨?_, ?_⟩
    · by_cases hx : ax < px
      · exact .inl hx
      · have hx : px = ax := by omega
        subst hx
        have : (bx - px) * (py - ay) = 0 := by grind
        rcases Int.mul_eq_zero.1 this with h | h <;> omega
    · by_cases hx : px < bx
      · exact .inl hx
      · have hx : px = bx := by omega
        subst hx
        have : (px - ax) * (py - b_y) = 0 := by grind
        rcases Int.mul_eq_zero.1 this with h | h <;> omega
theorem lex_btw {ax ay bx b_y px py : Int} (h : trn ax ay bx b_y px py = 0) (hl : ahd bx b_y ax ay = false) :
    (!ahd px py ax ay && !ahd bx b_y px py) = (btw ax bx px && btw ay b_y py) := by
  unfold ahd at hl
  have hl' : ¬(bx < ax ∨ bx = ax ∧ b_y < ay) := fun h => by
    have : (decide (bx < ax) || decide (bx = ax) && decide (b_y < ay)) = true := by simpa using h
    rw [hl] at this; cases this
  have h3 : (ax < px ∨ ax = px ∧ ay ≤ py) ∧ (px < bx ∨ px = bx ∧ py ≤ b_y) ↔ (min ax bx ≤ px ∧ px ≤ max ax bx) ∧ min ay b_y ≤ py ∧ py ≤ max ay b_y := by
    by_cases hx : ax < bx
    · exact on_lt h hx
    · obtain rfl : bx = ax := by omega
      omega
  rw [Bool.eq_iff_iff]
  unfold ahd btw
  simp only [Bool.and_eq_true, Bool.not_eq_true', Bool.or_eq_false_iff, Bool.and_eq_false_iff, decide_eq_true_eq, decide_eq_false_iff_not]
  omega
theorem ahd_asym {ax ay bx b_y : Int} (h : ahd ax ay bx b_y = true) : ahd bx b_y ax ay = false := by
  unfold ahd at *
  simp only [Bool.and_eq_true, Bool.or_eq_true, Bool.or_eq_false_iff, Bool.and_eq_false_iff, decide_eq_true_eq, decide_eq_false_iff_not] at *
  omega
theorem btw_comm (a b n : Int) : btw b a n = btw a b n := by unfold btw; rw [Int.min_comm, Int.max_comm]
/-- does one lie on a segment, by the order of points? (h: is b ahead of a) -/
def lexB (h : Bool) (ax ay bx b_y px py : Int) : Bool := bif h then !ahd px py bx b_y && !ahd ax ay px py else !ahd px py ax ay && !ahd bx b_y px py
theorem onB_lex (ax ay bx b_y px py : Int) : onB ax ay bx b_y px py = (rp3 ax ay bx b_y px py && (way ax ay bx b_y px py == 0) && lexB (ahd bx b_y ax ay) ax ay bx b_y px py) := by
  unfold onB lexB way
  cases rp3 ax ay bx b_y px py
  · rfl
  by_cases h0 : trn ax ay bx b_y px py = 0
  · rw [h0]
    cases hl : ahd bx b_y ax ay
    · rw [cond_false, cond_true, lex_btw h0 hl]; simp
    · have h1 : trn bx b_y ax ay px py = 0 := by rw [trn_swap, h0]; rfl
      rw [cond_true, cond_true, lex_btw h1 (ahd_asym hl), btw_comm, btw_comm b_y ay]; simp
  · have : ((trn ax ay bx b_y px py).sign == 0) = false := by simpa using h0
    rw [cond_true, this]; simp
theorem onB_swap (ax ay bx b_y px py : Int) : onB bx b_y ax ay px py = onB ax ay bx b_y px py := by
  unfold onB; rw [rp3_swap, trn_swap, Int.sign_neg, btw_comm, btw_comm ay]
  congr 3
  rw [Bool.eq_iff_iff]; simp
theorem onB_end (ax ay bx b_y : Int) : onB ax ay bx b_y ax ay = (rp ax ay && rp bx b_y) := by
  unfold onB
  have h : trn ax ay bx b_y ax ay = 0 := by unfold trn; grind
  have b1 : btw ax bx ax = true := by unfold btw; simp; omega
  have b2 : btw ay b_y ay = true := by unfold btw; simp; omega
  rw [h, b1, b2]; unfold rp3
  generalize rp ax ay = a; generalize rp bx b_y = b
  cases a <;> cases b <;> rfl
end Go.Proofs.Ytgddpkopbiendaa
