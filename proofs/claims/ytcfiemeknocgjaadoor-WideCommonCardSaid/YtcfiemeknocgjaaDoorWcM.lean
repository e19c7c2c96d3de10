/- gromalaw01.WideCommon is true. Conditions: the table of powers lies as laid. -/
import Derived.Test.YtcfiemeknocgjaaDoorWcL
namespace Go.Proofs.YtcfiemeknocgjaaDoor
open Go.RowKit

theorem eq4_L {a : Int} (h : InI a) : eq4 (wd0 a) (wd1 a) (wd2 a) (wd3 a) 0 0 0 9223372036854775808 = decide (a = -b255) := by
  have e : eq4 (wd0 a) (wd1 a) (wd2 a) (wd3 a) 0 0 0 9223372036854775808 = decide (a % b256 = (-b255) % b256) := eq4_wd a (-b255)
  rw [e]; congr 1; apply propext; unfold InI b255 b256 at *; omega
theorem eq4_Z {a : Int} (h : InI a) : eq4 (wd0 a) (wd1 a) (wd2 a) (wd3 a) 0 0 0 0 = decide (a = 0) := by
  rw [eq4_0]; congr 1; apply propext; unfold InI b255 b256 at *; omega
theorem fr_0 {x y : Int} : fr x y = 0 ↔ y ∣ x := by
  unfold fr
  split
  · exact ⟨Int.dvd_of_emod_eq_zero, Int.emod_eq_zero_of_dvd⟩
  · constructor
    · intro h; have := Int.dvd_of_emod_eq_zero (show (-x) % (-y) = 0 by omega); exact Int.neg_dvd.1 (Int.dvd_neg.1 this)
    · intro h; rw [Int.emod_eq_zero_of_dvd (Int.neg_dvd.2 (Int.dvd_neg.2 h))]; rfl
/-- what divides a number gives a number no greater -/
theorem fq_dvd {x y : Int} (hy : y ≠ 0) (h : y ∣ x) (hx : x < b255) (hx2 : -b255 < x) : fq x y < b255 := by
  have e := fq_fr x y
  rw [fr_0.2 h] at e
  generalize fq x y = q at *
  have k : q.natAbs ≤ x.natAbs := by
    rw [← e, Int.add_zero, Int.natAbs_mul]
    exact Nat.le_mul_of_pos_right _ (by omega)
  unfold b255 at *; omega
theorem dvOk_pos {a c : Int} (ia : InI a) (hc : 0 < c) : dvOk a c = true := by
  unfold dvOk
  rw [decide_eq_true (show c ≠ 0 by omega), Bool.true_and]
  apply decide_eq_true
  unfold fq; rw [if_pos (by omega)]
  have h1 := Int.ediv_mul_le a (show c ≠ 0 by omega)
  unfold InI b255 at *
  by_cases g : 0 ≤ a
  · have := Int.ediv_le_self c g; omega
  · have := Int.ediv_neg_of_neg_of_pos (show a < 0 by omega) hc; omega
theorem dvOk_ne {a c : Int} (h : dvOk a c = true) : c ≠ 0 := by unfold dvOk at h; simp only [Bool.and_eq_true, decide_eq_true_eq] at h; exact h.1
theorem dvr_ok {a c : Int} (h : dvOk a c = true) : dvr a c = fr a c := by unfold dvr; rw [h]; rfl
theorem gcd_far {a b : Int} (ia : InI a) (ib : InI b) (h : okI (Int.gcd a b : Int) = false) : a = -b255 ∨ a = 0 := by
  by_cases g : a = 0
  · exact .inr g
  · left
    have h1 : ¬ InI (Int.gcd a b : Int) := fun k => by unfold okI at h; rw [decide_eq_true k] at h; cases h
    have h2 : (Int.gcd a b : Int).natAbs ≤ a.natAbs := Nat.le_of_dvd (by omega) (Int.natAbs_dvd_natAbs.2 (Int.gcd_dvd_left _ _))
    unfold InI b255 at *; omega
set_option maxRecDepth 100000 in
theorem WCom_any (a b e : Int) (w : World) (hG : Tab w) (ia : InI a) (ib : InI b) (ie : InI e) :
    Calls Tryd.prog 3 #[wI a, wI b, wI e] w fun e w' => e = .returned (.bool true) ∧ Below w.heap.size w w' := by
  cases hk : cmk a b
  · have hv : cmv a b = 0 := by unfold cmv; rw [show okI (Int.gcd a b : Int) = false from hk]; rfl
    have ha := gcd_far ia ib hk
    have hb := gcd_far ib ia (by rw [Int.gcd_comm]; exact hk)
    by_cases a1 : a = -b255
    · have A1 : eq4 (wd0 a) (wd1 a) (wd2 a) (wd3 a) 0 0 0 9223372036854775808 = true := by rw [eq4_L ia]; exact decide_eq_true a1
      by_cases b1 : b = -b255
      · have B1 : eq4 (wd0 b) (wd1 b) (wd2 b) (wd3 b) 0 0 0 9223372036854775808 = true := by rw [eq4_L ib]; exact decide_eq_true b1
        exact WCom_LL a b e hk hv A1 B1 ia ib ie w hG
      · have B1 : eq4 (wd0 b) (wd1 b) (wd2 b) (wd3 b) 0 0 0 9223372036854775808 = false := by rw [eq4_L ib]; exact decide_eq_false b1
        exact WCom_LZ a b e hk hv A1 B1 (by rw [eq4_Z ib]; exact decide_eq_true (hb.resolve_left b1)) ia ib ie w hG
    · have A1 : eq4 (wd0 a) (wd1 a) (wd2 a) (wd3 a) 0 0 0 9223372036854775808 = false := by rw [eq4_L ia]; exact decide_eq_false a1
      have A2 : eq4 (wd0 a) (wd1 a) (wd2 a) (wd3 a) 0 0 0 0 = true := by rw [eq4_Z ia]; exact decide_eq_true (ha.resolve_left a1)
      by_cases b1 : b = -b255
      · have B1 : eq4 (wd0 b) (wd1 b) (wd2 b) (wd3 b) 0 0 0 9223372036854775808 = true := by rw [eq4_L ib]; exact decide_eq_true b1
        exact WCom_ZL a b e hk hv A1 A2 B1 ia ib ie w hG
      · have B1 : eq4 (wd0 b) (wd1 b) (wd2 b) (wd3 b) 0 0 0 9223372036854775808 = false := by rw [eq4_L ib]; exact decide_eq_false b1
        exact WCom_ZZ a b e hk hv A1 A2 B1 (by rw [eq4_Z ib]; exact decide_eq_true (hb.resolve_left b1)) ia ib ie w hG
  · have hv : cmv a b = (Int.gcd a b : Int) := by unfold cmv; rw [show okI (Int.gcd a b : Int) = true from hk]; rfl
    have ic : InI (Int.gcd a b : Int) := by have h2 := hk; unfold cmk okI at h2; exact of_decide_eq_true h2
    by_cases g0 : (Int.gcd a b : Int) = 0
    · have hz : a = 0 ∧ b = 0 := Int.gcd_eq_zero_iff.1 (by omega)
      exact WCom_0 a b e hk (hv.trans g0) (by rw [eq4_Z ia]; exact decide_eq_true hz.1) (by rw [eq4_Z ib]; exact decide_eq_true hz.2) ia ib ie w hG
    · have gp : 0 < (Int.gcd a b : Int) := by omega
      have e1 : eq4 (wd0 (Int.gcd a b : Int)) (wd1 (Int.gcd a b : Int)) (wd2 (Int.gcd a b : Int)) (wd3 (Int.gcd a b : Int)) 0 0 0 0 = false := by rw [eq4_Z ic]; exact decide_eq_false g0
      have d1 := dvOk_pos ia gp
      have d2 := dvOk_pos ib gp
      have r1 : dvr a (Int.gcd a b : Int) = 0 := by rw [dvr_ok d1]; exact fr_0.2 (Int.gcd_dvd_left _ _)
      have r2 : dvr b (Int.gcd a b : Int) = 0 := by rw [dvr_ok d2]; exact fr_0.2 (Int.gcd_dvd_right _ _)
      have sc : (Int.gcd a b : Int).sign = 1 := Int.sign_eq_one_of_pos gp
      cases o1 : dvOk a e
      · exact WCom_f1 a b e _ _ _ hk hv e1 d1 d2 r1 rfl r2 rfl sc o1 ic in_0 in_0 ia ib ie w hG
      · cases o2 : dvOk b e
        · exact WCom_f2 a b e _ _ _ hk hv e1 d1 d2 r1 rfl r2 rfl sc o1 o2 ic in_0 in_0 ia ib ie w hG
        · by_cases z1 : (dvr a e).sign = 0
          · by_cases z2 : (dvr b e).sign = 0
            · have y0 := dvOk_ne o1
              have k1 : e ∣ a := fr_0.1 (by rw [← dvr_ok o1]; exact Int.sign_eq_zero_iff_zero.1 z1)
              have k2 : e ∣ b := fr_0.1 (by rw [← dvr_ok o2]; exact Int.sign_eq_zero_iff_zero.1 z2)
              have k3 : e ∣ (Int.gcd a b : Int) := Int.dvd_coe_gcd k1 k2
              have o3 : dvOk (Int.gcd a b : Int) e = true := by
                unfold dvOk
                rw [decide_eq_true y0, Bool.true_and]
                exact decide_eq_true (fq_dvd y0 k3 ic.2 (by unfold b255; omega))
              exact WCom_t a b e _ _ _ _ _ _ hk hv e1 d1 d2 r1 rfl r2 rfl sc o1 o2 rfl z1 rfl z2 o3 (by rw [dvr_ok o3]; exact fr_0.2 k3) rfl ic in_0 in_0 (dvr_in ia ie) (dvr_in ib ie) in_0 ia ib ie w hG
            · rcases Int.lt_trichotomy (dvr b e) 0 with q | q | q
              · exact WCom_f4n a b e _ _ _ _ _ hk hv e1 d1 d2 r1 rfl r2 rfl sc o1 o2 rfl z1 rfl (Int.sign_eq_neg_one_of_neg q) ic in_0 in_0 (dvr_in ia ie) (dvr_in ib ie) ia ib ie w hG
              · exact absurd (by rw [q]; rfl) z2
              · exact WCom_f4p a b e _ _ _ _ _ hk hv e1 d1 d2 r1 rfl r2 rfl sc o1 o2 rfl z1 rfl (Int.sign_eq_one_of_pos q) ic in_0 in_0 (dvr_in ia ie) (dvr_in ib ie) ia ib ie w hG
          · exact WCom_f3 a b e _ _ _ _ _ _ hk hv e1 d1 d2 r1 rfl r2 rfl sc o1 o2 rfl rfl (by simpa using z1) rfl ic in_0 in_0 (dvr_in ia ie) (dvr_in ib ie) ia ib ie w hG
end Go.Proofs.YtcfiemeknocgjaaDoor
