/- gromalaw01.WideRoots is true. Conditions: the table of powers lies as laid. -/
import Derived.Test.YtcfiemeknocgjaaDoorWrL1
import Derived.Test.YtcfiemeknocgjaaDoorWrL2
namespace Go.Proofs.YtcfiemeknocgjaaDoor
open Go.RowKit

theorem sz_val {a : Int} (ia : InI a) : (a < 0 → sz a = -a) ∧ (¬ a < 0 → sz a = a) := by
  unfold sz; rw [ng_in ia]
  constructor
  · intro h; rw [decide_eq_true h]; rfl
  · intro h; rw [decide_eq_false h]; rfl
structure BtS (a : Int) : Prop where
  k0 : 0 ≤ btn a
  k1 : btn a ≤ 256
  lt : sz a < 2 ^ (btn a).toNat
  le : 0 < btn a → 2 ^ (wrap64 (btn a - 1)).toNat ≤ sz a
  pos : sz a ≠ 0 → 0 < btn a
theorem bt_sp {a : Int} (ia : InI a) : BtS a := by
  obtain ⟨s0, s1⟩ := sz_in2 ia
  obtain ⟨z, hz⟩ := Int.eq_ofNat_of_zero_le s0
  have sp := Go.bitLen_spec z
  have e : btn a = (Go.bitLen z : Int) := by unfold btn; rw [hz]; rfl
  have hle : Go.bitLen z ≤ 256 := by
    by_cases h : z = 0
    · subst h; decide
    · have h2 := sp.2 h
      have h3 : z < 2 ^ 256 := by
        have e2 : ((2 ^ 256 : Nat) : Int) = 115792089237316195423570985008687907853269984665640564039457584007913129639936 := by decide
        unfold b255 at s1; omega
      have := (Nat.pow_lt_pow_iff_right (by decide : 1 < 2)).1 (Nat.lt_of_le_of_lt h2 h3)
      omega
  have nz : z ≠ 0 → 0 < Go.bitLen z := fun h => by
    have h2 := sp.1
    rcases Nat.eq_zero_or_pos (Go.bitLen z) with g | g
    · rw [g] at h2; simp at h2; exact absurd h2 h
    · exact g
  refine ⟨by omega, by omega, ?_, fun h => ?_, fun h => by have := nz (by omega); omega⟩
  · rw [hz, e]
    have : ((2 ^ Go.bitLen z : Nat) : Int) = 2 ^ (Go.bitLen z : Int).toNat := by rw [Int.toNat_natCast]; exact Int.natCast_pow 2 _
    rw [← this]; exact Int.ofNat_lt.2 sp.1
  · have hw : (wrap64 (btn a - 1)).toNat = Go.bitLen z - 1 := by
      rw [show wrap64 (btn a - 1) = btn a - 1 from wrap64_id (by unfold In64; omega), e]; omega
    rw [hz, hw]
    have hzn : z ≠ 0 := fun g => by
      subst g
      have : Go.bitLen 0 = 0 := by decide
      omega
    have : ((2 ^ (Go.bitLen z - 1) : Nat) : Int) = 2 ^ (Go.bitLen z - 1) := Int.natCast_pow 2 _
    rw [← this]; exact Int.ofNat_le.2 (sp.2 hzn)
theorem c_lt {x y : Int} (h : x < y) : decide (0 ≤ cmpI x y) = false := by rw [cmpI_lt h]; decide
theorem c_ge {x y : Int} (h : y ≤ x) : decide (cmpI x y < 0) = false := by
  rcases Int.lt_or_eq_of_le h with g | g
  · rw [cmpI_gt g]; decide
  · rw [g, cmpI_eq]; decide
theorem c_le {x y : Int} (h : x ≤ y) : decide (0 < cmpI x y) = false := by
  rcases Int.lt_or_eq_of_le h with g | g
  · rw [cmpI_lt g]; decide
  · rw [g, cmpI_eq]; decide
theorem c_gt {x y : Int} (h : y < x) : decide (cmpI x y ≤ 0) = false := by rw [cmpI_gt h]; decide
theorem pwk_neg {a n : Int} (h : n < 0) : pwk a n = false ∧ pwv a n = 0 := by
  have : pwk a n = false := by unfold pwk; rw [decide_eq_true h]; rfl
  exact ⟨this, pw_zero this⟩
theorem pwk_big {a n : Int} (h : ¬ n < 0) (g : 256 < n) : pwk a n = false ∧ pwv a n = 0 := by
  have : pwk a n = false := by unfold pwk; rw [decide_eq_false h, decide_eq_true g]; rfl
  exact ⟨this, pw_zero this⟩
theorem WRo_any (a n : Int) (w : World) (hG : Tab w) (ia : InI a) (i_n : In64 n) :
    Calls Tryd.prog 6 #[wI a, .int .i64 n] w fun e w' => e = .returned (.bool true) ∧ Below w.heap.size w w' := by
  have B := bt_sp ia
  obtain ⟨zn, zp⟩ := sz_val ia
  have k0 : decide (btn a < 0) = false := decide_eq_false (by have := B.k0; omega)
  have k1 : decide (256 < btn a) = false := decide_eq_false (by have := B.k1; omega)
  have ik : Hid (0 ≤ btn a ∧ btn a ≤ 256) := Lib.hid ⟨B.k0, B.k1⟩
  by_cases h : a < 0
  · have z := zn h
    have hs : decide (a.sign < 0) = true := by rw [Int.sign_eq_neg_one_of_neg h]; decide
    have r0 : rtv a = 0 := by unfold rtv; rw [decide_eq_true h]; rfl
    have rk : rtk a = false := by unfold rtk; rw [decide_eq_true h]; rfl
    have kp := B.pos (by omega)
    have cq : decide (0 ≤ cmpI (-a) (2 ^ (btn a).toNat)) = false := c_lt (by have b := B.lt; rw [z] at b; exact b)
    have cq2 : decide (cmpI (-a) (2 ^ (wrap64 (btn a - 1)).toNat) < 0) = false := c_ge (by have b := B.le kp; rw [z] at b; exact b)
    by_cases n0 : n < 0
    · have N := pwk_neg (a := a) n0
      exact WRo_00 a n _ _ _ _ _ _ _ rfl hs rfl k0 k1 rfl rfl rfl cq (decide_eq_true kp) rfl rfl cq2 r0 rk N.2 N.1 (decide_eq_true n0) ik ia i_n w hG
    by_cases n1 : 256 < n
    · have N := pwk_big (a := a) n0 n1
      exact WRo_01 a n _ _ _ _ _ _ _ rfl hs rfl k0 k1 rfl rfl rfl cq (decide_eq_true kp) rfl rfl cq2 r0 rk N.2 N.1 (decide_eq_false n0) (decide_eq_true n1) ik ia i_n w hG
    cases N : pwk a n
    · exact WRo_03 a n _ _ _ _ _ _ _ rfl hs rfl k0 k1 rfl rfl rfl cq (decide_eq_true kp) rfl rfl cq2 r0 rk (pw_zero N) N (decide_eq_false n0) (decide_eq_false n1) ik ia i_n w hG
    · exact WRo_02 a n _ _ _ _ _ _ _ _ rfl hs rfl k0 k1 rfl rfl rfl cq (decide_eq_true kp) rfl rfl cq2 r0 rk rfl N (decide_eq_false n0) (decide_eq_false n1) ik ia i_n w hG
  · have z := zp h
    have hs : decide (a.sign < 0) = false := decide_eq_false (by have := Int.sign_nonneg_iff.2 (show 0 ≤ a by omega); omega)
    have rk : rtk a = true := by unfold rtk; rw [decide_eq_false h]; rfl
    obtain ⟨R0, R1, R2⟩ := rtv_is ia (by omega)
    have ir := rtk_in a ia (by omega)
    have rs0 : decide ((rtv a).sign < 0) = false := decide_eq_false (by have := Int.sign_nonneg_iff.2 R0; omega)
    have c3 := c_le R1
    have c4 := c_gt R2
    by_cases kp : 0 < btn a
    · have cq : decide (0 ≤ cmpI a (2 ^ (btn a).toNat)) = false := c_lt (by have b := B.lt; rw [z] at b; exact b)
      have cq2 : decide (cmpI a (2 ^ (wrap64 (btn a - 1)).toNat) < 0) = false := c_ge (by have b := B.le kp; rw [z] at b; exact b)
      by_cases n0 : n < 0
      · have N := pwk_neg (a := a) n0
        exact WRo_20 a n _ _ _ _ _ _ _ _ _ _ _ _ _ rfl hs rfl k0 k1 rfl rfl cq (decide_eq_true kp) rfl rfl cq2 rfl rk rfl rfl rs0 rfl rfl c3 rfl rfl c4 N.2 N.1 (decide_eq_true n0) ik ir ia i_n w hG
      by_cases n1 : 256 < n
      · have N := pwk_big (a := a) n0 n1
        exact WRo_21 a n _ _ _ _ _ _ _ _ _ _ _ _ _ rfl hs rfl k0 k1 rfl rfl cq (decide_eq_true kp) rfl rfl cq2 rfl rk rfl rfl rs0 rfl rfl c3 rfl rfl c4 N.2 N.1 (decide_eq_false n0) (decide_eq_true n1) ik ir ia i_n w hG
      cases N : pwk a n
      · exact WRo_23 a n _ _ _ _ _ _ _ _ _ _ _ _ _ rfl hs rfl k0 k1 rfl rfl cq (decide_eq_true kp) rfl rfl cq2 rfl rk rfl rfl rs0 rfl rfl c3 rfl rfl c4 (pw_zero N) N (decide_eq_false n0) (decide_eq_false n1) ik ir ia i_n w hG
      · exact WRo_22 a n _ _ _ _ _ _ _ _ _ _ _ _ _ _ rfl hs rfl k0 k1 rfl rfl cq (decide_eq_true kp) rfl rfl cq2 rfl rk rfl rfl rs0 rfl rfl c3 rfl rfl c4 rfl N (decide_eq_false n0) (decide_eq_false n1) ik ir ia i_n w hG
    · have cq : decide (0 ≤ cmpI a (2 ^ (btn a).toNat)) = false := c_lt (by have b := B.lt; rw [z] at b; exact b)
      by_cases n0 : n < 0
      · have N := pwk_neg (a := a) n0
        exact WRo_10 a n _ _ _ _ _ _ _ _ _ _ _ rfl hs rfl k0 k1 rfl rfl cq (decide_eq_false kp) rfl rk rfl rfl rs0 rfl rfl c3 rfl rfl c4 N.2 N.1 (decide_eq_true n0) ik ir ia i_n w hG
      by_cases n1 : 256 < n
      · have N := pwk_big (a := a) n0 n1
        exact WRo_11 a n _ _ _ _ _ _ _ _ _ _ _ rfl hs rfl k0 k1 rfl rfl cq (decide_eq_false kp) rfl rk rfl rfl rs0 rfl rfl c3 rfl rfl c4 N.2 N.1 (decide_eq_false n0) (decide_eq_true n1) ik ir ia i_n w hG
      cases N : pwk a n
      · exact WRo_13 a n _ _ _ _ _ _ _ _ _ _ _ rfl hs rfl k0 k1 rfl rfl cq (decide_eq_false kp) rfl rk rfl rfl rs0 rfl rfl c3 rfl rfl c4 (pw_zero N) N (decide_eq_false n0) (decide_eq_false n1) ik ir ia i_n w hG
      · exact WRo_12 a n _ _ _ _ _ _ _ _ _ _ _ _ rfl hs rfl k0 k1 rfl rfl cq (decide_eq_false kp) rfl rk rfl rfl rs0 rfl rfl c3 rfl rfl c4 rfl N (decide_eq_false n0) (decide_eq_false n1) ik ir ia i_n w hG
end Go.Proofs.YtcfiemeknocgjaaDoor
