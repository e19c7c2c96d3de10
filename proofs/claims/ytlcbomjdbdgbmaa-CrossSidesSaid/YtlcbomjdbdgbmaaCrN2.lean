/- The plain laws of package cross: the ends of a segment, its sides, what it holds. Conditions: the numbers are ints and numbers of 256 bits. -/
import Derived.Test.YtlcbomjdbdgbmaaCrN
namespace Go.Proofs.Ytlcbomjdbdgbmaa
open Go.RowKit

theorem cmpP_lt0 (ax ay bx b_y : Int) : decide (cmpP ax ay bx b_y < 0) = ahd ax ay bx b_y := by
  unfold cmpP ahd or2
  rcases Int.lt_trichotomy ax bx with h | h | h
  · rw [cmpI_lt h, decide_eq_true h]; rfl
  · subst h
    rw [cmpI_eq, decide_eq_false (show ¬ ax < ax by omega), decide_eq_true (rfl : ax = ax), Bool.false_or, Bool.true_and]
    exact cmp_lt0
  · rw [cmpI_gt h, decide_eq_false (show ¬ ax < bx by omega), decide_eq_false (show ¬ ax = bx by omega)]; rfl
theorem cmpP_anti (ax ay bx b_y : Int) : cmpP bx b_y ax ay = -cmpP ax ay bx b_y := by
  unfold cmpP or2
  rw [cmpI_anti ax bx, cmpI_anti ay b_y]
  generalize cmpI ax bx = c
  generalize cmpI ay b_y = d
  by_cases h : c = 0
  · subst h; rfl
  · rw [show (c == 0) = false by simpa using h, show (-c == 0) = false by simpa using h]; rfl
theorem ends_t {ax ay bx b_y : Int} (h : ahd bx b_y ax ay = true) : lwx ax ay bx b_y = bx ∧ lwy ax ay bx b_y = b_y ∧ hgx ax ay bx b_y = ax ∧ hgy ax ay bx b_y = ay := by
  unfold lwx lwy hgx hgy; rw [cmpP_lt0, h]; exact ⟨rfl, rfl, rfl, rfl⟩
theorem ends_f {ax ay bx b_y : Int} (h : ahd bx b_y ax ay = false) : lwx ax ay bx b_y = ax ∧ lwy ax ay bx b_y = ay ∧ hgx ax ay bx b_y = bx ∧ hgy ax ay bx b_y = b_y := by
  unfold lwx lwy hgx hgy; rw [cmpP_lt0, h]; exact ⟨rfl, rfl, rfl, rfl⟩
theorem ends_co {ax ay bx b_y : Int} (h : sgR ax ay bx b_y = true) : Co (lwx ax ay bx b_y) ∧ Co (lwy ax ay bx b_y) ∧ Co (hgx ax ay bx b_y) ∧ Co (hgy ax ay bx b_y) := by
  obtain ⟨h1, h2⟩ := sg_true h
  obtain ⟨a1, a2⟩ := rp_co h1
  obtain ⟨b1, b2⟩ := rp_co h2
  cases hh : ahd bx b_y ax ay
  · obtain ⟨e1, e2, e3, e4⟩ := ends_f hh; rw [e1, e2, e3, e4]; exact ⟨a1, a2, b1, b2⟩
  · obtain ⟨e1, e2, e3, e4⟩ := ends_t hh; rw [e1, e2, e3, e4]; exact ⟨b1, b2, a1, a2⟩
theorem rp_of {x y : Int} (h1 : Co x) (h2 : Co y) : rp x y = true := by
  unfold rp inC; unfold Co at h1 h2
  rw [decide_eq_true h1.1, decide_eq_true h1.2, decide_eq_true h2.1, decide_eq_true h2.2]; rfl

/-- a number of a spot, less a coordinate times its W -/
theorem part_bd {l y v : Int} (hl : Co l) (hy : -2722258935367507707706996859454145691648 ≤ y ∧ y ≤ 2722258935367507707706996859454145691648) (h0 : 0 < v) (h1 : v ≤ 1237940039285380274899124224) :
    subv y (mulv l v) = y - l * v ∧ -5444517870735015415413993718908291383296 ≤ y - l * v ∧ y - l * v ≤ 5444517870735015415413993718908291383296 := by
  have hb := mul_bd (a := 2199023255552) (b := 1237940039285380274899124224) (by decide) (show -2199023255552 ≤ l ∧ l ≤ 2199023255552 from hl) (show -1237940039285380274899124224 ≤ v ∧ v ≤ 1237940039285380274899124224 by omega)
  have e : mulv l v = l * v := mulv_id (by unfold InI b255; omega)
  rw [e]
  generalize l * v = p at *
  exact ⟨subv_id (by unfold InI b255; omega), by omega, by omega⟩
theorem side_ex {c d p q : Int} (hc : -4398046511104 ≤ c ∧ c ≤ 4398046511104) (hd : -4398046511104 ≤ d ∧ d ≤ 4398046511104)
    (hp : -5444517870735015415413993718908291383296 ≤ p ∧ p ≤ 5444517870735015415413993718908291383296) (hq : -5444517870735015415413993718908291383296 ≤ q ∧ q ≤ 5444517870735015415413993718908291383296) :
    subv (mulv c p) (mulv d q) = c * p - d * q := by
  have h1 := mul_bd (by decide) hc hp
  have h2 := mul_bd (by decide) hd hq
  rw [mulv_id (show InI (c * p) by unfold InI b255; omega), mulv_id (show InI (d * q) by unfold InI b255; omega)]
  generalize c * p = s at *
  generalize d * q = t at *
  exact subv_id (by unfold InI b255; omega)
theorem sde_eq {ax ay bx b_y x y v : Int} (hs : sgR ax ay bx b_y = true) (hp : rspR x y v = true) :
    sde ax ay bx b_y x y v = rsde (lwx ax ay bx b_y) (lwy ax ay bx b_y) (hgx ax ay bx b_y) (hgy ax ay bx b_y) x y v := by
  obtain ⟨c1, c2, c3, c4⟩ := ends_co hs
  have o := sp_ok hp
  obtain ⟨e1, b1⟩ := part_bd c2 o.yb o.v0 o.v1
  obtain ⟨e2, b2⟩ := part_bd c1 o.xb o.v0 o.v1
  unfold sde rsde
  rw [e1, e2]
  have w1 : wyx ax ay bx b_y = hgx ax ay bx b_y - lwx ax ay bx b_y := co_wrap c3 c1
  have w2 : wyy ax ay bx b_y = hgy ax ay bx b_y - lwy ax ay bx b_y := co_wrap c4 c2
  rw [w1, w2, co_wrap c3 c1, co_wrap c4 c2, side_ex (co_sub c3 c1) (co_sub c4 c2) b1 b2]
theorem rsde_turn {ax ay bx b_y x y v : Int} (h1 : Co ax) (h2 : Co ay) (h3 : Co bx) (h4 : Co b_y) : rsde bx b_y ax ay x y v = -rsde ax ay bx b_y x y v := by
  unfold rsde
  rw [co_wrap h1 h3, co_wrap h2 h4, co_wrap h3 h1, co_wrap h4 h2, ← Int.sign_neg]
  congr 1
  grind
theorem Sde_eq {ax ay bx b_y x y v : Int} (hs : sgR ax ay bx b_y = true) (hp : rspR x y v = true) :
    Sde ax ay bx b_y x y v = rsde (lwx ax ay bx b_y) (lwy ax ay bx b_y) (hgx ax ay bx b_y) (hgy ax ay bx b_y) x y v := by
  unfold Sde; rw [spR_eq, hs, hp, cond_true, cond_true, sde_eq hs hp]
theorem Sde_0 {ax ay bx b_y x y v : Int} (h : sgR ax ay bx b_y = false ∨ rspR x y v = false) : Sde ax ay bx b_y x y v = 0 := by
  unfold Sde; rw [spR_eq]
  rcases h with h | h
  · rw [h]; rfl
  · rw [h]; cases sgR ax ay bx b_y <;> rfl
theorem hld_0 {ax ay bx b_y x y v : Int} (h : sgR ax ay bx b_y = false ∨ rspR x y v = false) : hldB ax ay bx b_y x y v = false := by
  unfold hldB; rw [spR_eq]
  rcases h with h | h
  · rw [h]; rfl
  · rw [h]; cases sgR ax ay bx b_y <;> rfl
theorem neg_eq0 (s : Int) : (-s == 0) = (s == 0) := by
  by_cases h : s = 0
  · subst h; rfl
  · rw [show (s == 0) = false by simpa using h, show (-s == 0) = false by simpa using h]
theorem hld_eq {ax ay bx b_y x y v : Int} (hs : sgR ax ay bx b_y = true) (hp : rspR x y v = true) : hldB ax ay bx b_y x y v = rhld ax ay bx b_y x y v := by
  obtain ⟨r1, r2⟩ := sg_true hs
  obtain ⟨a1, a2⟩ := rp_co r1
  obtain ⟨b1, b2⟩ := rp_co r2
  unfold hldB rhld
  rw [spR_eq, hs, hp, cond_true, cond_true, sde_eq hs hp]
  cases hh : ahd bx b_y ax ay
  · obtain ⟨e1, e2, e3, e4⟩ := ends_f hh
    rw [e1, e2, e3, e4, (at_eqs r1).1, (at_eqs r1).2.1, (at_eqs r1).2.2, (at_eqs r2).1, (at_eqs r2).2.1, (at_eqs r2).2.2, spC_eq (at_ok r1) hp, spC_eq hp (at_ok r2)]
    rfl
  · obtain ⟨e1, e2, e3, e4⟩ := ends_t hh
    rw [e1, e2, e3, e4, (at_eqs r1).1, (at_eqs r1).2.1, (at_eqs r1).2.2, (at_eqs r2).1, (at_eqs r2).2.1, (at_eqs r2).2.2, spC_eq (at_ok r2) hp, spC_eq hp (at_ok r1), rsde_turn a1 a2 b1 b2, neg_eq0]
    rfl
end Go.Proofs.Ytlcbomjdbdgbmaa
