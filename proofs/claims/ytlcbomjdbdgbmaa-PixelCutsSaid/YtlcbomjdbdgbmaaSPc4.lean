/- My texts PxM, PcB, PcA, PcC, PcE, joined: what the last one needs of them. Conditions: as each lemma says. -/
import Derived.Test.YtlcbomjdbdgbmaaSPc3
import Derived.KernelRfl
import Derived.StillTail
import Derived.OrdersHeld
import Derived.Deep.Quiet
import Derived.Below
import Derived.WalkKit
import Derived.Test.YtlcbomjdbdgbmaaProg
import Derived.WalkSpells
import Derived.StillTactics
import Derived.Laws.Pointers
import Derived.Deep.RegionHeld3
import Derived.RowKit3
import Derived.Deep.QuietTactic
import Derived.BigQuiet
import Derived.BigRegion
import Derived.Lib.Hide
import Derived.WalkSmall
import Derived.Laws.BitsAllLaws
import Derived.IntWalk
import Derived.Deep.OwnRows
import Derived.Deep.LoopGhost
import Derived.Shelf.Bits.Mul64
import Derived.ProofKit
import Derived.OpenShut
import Derived.ShutString
import Derived.ChangeOld
import Derived.Lib.SmallJoins
import Derived.Laws.IdiomArrays
import Derived.RowKit
import Derived.Deep.WholeRow
import Derived.Laws.Rows
namespace Go.Proofs.Ytlcbomjdbdgbmaa
open Go.RowKit


theorem L2 {a b c d p q : Int} (hd : 0 < d) (hb : 0 < b) (hq : 0 < q) (h : a * d ≤ c * b) (k : c * q ≤ p * d) : a * q ≤ p * b := by
  apply Int.le_of_mul_le_mul_right _ hd
  have h1 := Int.mul_le_mul_of_nonneg_right h (Int.le_of_lt hq)
  have h2 := Int.mul_le_mul_of_nonneg_right k (Int.le_of_lt hb)
  have e1 : a * d * q = a * q * d := by grind
  have e2 : c * b * q = c * q * b := by grind
  have e3 : p * d * b = p * b * d := by grind
  omega
theorem L1 {a b c d p q : Int} (hd : 0 < d) (hb : 0 < b) (hq : 0 < q) (h : a * d < c * b) (k : c * q ≤ p * d) : a * q < p * b := by
  apply Int.lt_of_mul_lt_mul_right _ (Int.le_of_lt hd)
  have h1 := Int.mul_lt_mul_of_pos_right h hq
  have h2 := Int.mul_le_mul_of_nonneg_right k (Int.le_of_lt hb)
  have e1 : a * d * q = a * q * d := by grind
  have e2 : c * b * q = c * q * b := by grind
  have e3 : p * d * b = p * b * d := by grind
  omega
theorem L3 {a b c d p q : Int} (hd : 0 < d) (hb : 0 < b) (hq : 0 < q) (h : a * d ≤ c * b) (k : c * q < p * d) : a * q < p * b := by
  apply Int.lt_of_mul_lt_mul_right _ (Int.le_of_lt hd)
  have h1 := Int.mul_le_mul_of_nonneg_right h (Int.le_of_lt hq)
  have h2 := Int.mul_lt_mul_of_pos_right k hb
  have e1 : a * d * q = a * q * d := by grind
  have e2 : c * b * q = c * q * b := by grind
  have e3 : p * d * b = p * b * d := by grind
  omega

/-- p / q isn't ahead of n / d; if that is open: it is behind it -/
def inF (n d : Int) (o : Bool) (p q : Int) : Prop := if o then n * q < p * d else n * q ≤ p * d
def inT (n d : Int) (o : Bool) (p q : Int) : Prop := if o then p * d < n * q else p * d ≤ n * q
theorem inF_le {n d p q : Int} {o : Bool} (h : inF n d o p q) : n * q ≤ p * d := by unfold inF at h; cases o <;> simp at h <;> omega
theorem inF_of {n d p q : Int} (o : Bool) (h : n * q < p * d) : inF n d o p q := by unfold inF; cases o <;> simp <;> omega
theorem inT_F (n d : Int) (o : Bool) (p q : Int) : inT n d o p q ↔ inF (-n) d o (-p) q := by
  unfold inT inF
  rw [Int.neg_mul, Int.neg_mul]
  cases o <;> simp <;> omega
theorem cmb_lt {n d x y p q : Int} {o u : Bool} (hd : 0 < d) (hy : 0 < y) (hq : 0 < q) (h : n * y < x * d) : (inF n d o p q ∧ inF x y u p q) ↔ inF x y u p q :=
  ⟨fun k => k.2, fun k => ⟨inF_of _ (L1 hy hd hq h (inF_le k)), k⟩⟩
theorem cmb_gt {n d x y p q : Int} {o u : Bool} (hd : 0 < d) (hy : 0 < y) (hq : 0 < q) (h : x * d < n * y) : (inF n d o p q ∧ inF x y u p q) ↔ inF n d o p q :=
  ⟨fun k => k.1, fun k => ⟨k, inF_of _ (L1 hd hy hq h (inF_le k))⟩⟩
theorem cmb_eq {n d x y p q : Int} {o u : Bool} (hd : 0 < d) (hy : 0 < y) (hq : 0 < q) (h : x * d = n * y) : (inF n d o p q ∧ inF x y u p q) ↔ inF n d (o || u) p q := by
  have h1 : n * q ≤ p * d ↔ x * q ≤ p * y := ⟨fun k => L2 hd hy hq (by omega) k, fun k => L2 hy hd hq (by omega) k⟩
  have h2 : n * q < p * d ↔ x * q < p * y := ⟨fun k => L3 hd hy hq (by omega) k, fun k => L3 hy hd hq (by omega) k⟩
  unfold inF
  cases o <;> cases u <;> simp <;> omega
theorem cmt_lt {n d x y p q : Int} {o u : Bool} (hd : 0 < d) (hy : 0 < y) (hq : 0 < q) (h : x * d < n * y) : (inT n d o p q ∧ inT x y u p q) ↔ inT x y u p q := by
  rw [inT_F, inT_F]; exact cmb_lt hd hy hq (by rw [Int.neg_mul, Int.neg_mul]; omega)
theorem cmt_gt {n d x y p q : Int} {o u : Bool} (hd : 0 < d) (hy : 0 < y) (hq : 0 < q) (h : n * y < x * d) : (inT n d o p q ∧ inT x y u p q) ↔ inT n d o p q := by
  rw [inT_F, inT_F]; exact cmb_gt hd hy hq (by rw [Int.neg_mul, Int.neg_mul]; omega)
theorem cmt_eq {n d x y p q : Int} {o u : Bool} (hd : 0 < d) (hy : 0 < y) (hq : 0 < q) (h : x * d = n * y) : (inT n d o p q ∧ inT x y u p q) ↔ inT n d (o || u) p q := by
  rw [inT_F, inT_F, inT_F]; exact cmb_eq hd hy hq (by rw [Int.neg_mul, Int.neg_mul]; omega)

/-- between two fractions, or at them -/
theorem mid_in {n d x y : Int} {o u : Bool} (hd : 0 < d) (hy : 0 < y) (h : n * y < x * d) : inF n d o (n * y + x * d) (2 * (d * y)) ∧ inT x y u (n * y + x * d) (2 * (d * y)) := by
  have k1 : n * (2 * (d * y)) < (n * y + x * d) * d := by
    have := Int.mul_lt_mul_of_pos_right h hd
    have e : n * (2 * (d * y)) = n * y * d + n * y * d := by grind
    have e2 : (n * y + x * d) * d = n * y * d + x * d * d := by grind
    omega
  have k2 : (n * y + x * d) * y < x * (2 * (d * y)) := by
    have := Int.mul_lt_mul_of_pos_right h hy
    have e : x * (2 * (d * y)) = x * d * y + x * d * y := by grind
    have e2 : (n * y + x * d) * y = n * y * y + x * d * y := by grind
    omega
  refine ⟨inF_of _ k1, ?_⟩
  unfold inT
  cases u <;> simp <;> omega
theorem at_in {n d x y : Int} (_hd : 0 < d) (_hy : 0 < y) (h : n * y = x * d) : inF n d false n d ∧ inT x y false n d := by
  unfold inF inT; simp; omega
/-- there is none -/
theorem none_in {n d x y p q : Int} {o u : Bool} (hd : 0 < d) (hy : 0 < y) (hq : 0 < q) (h : x * d < n * y ∨ (x * d = n * y ∧ (o = true ∨ u = true))) : ¬ (inF n d o p q ∧ inT x y u p q) := by
  rintro ⟨h1, h2⟩
  have k1 := inF_le h1
  have k2 : p * y ≤ x * q := by unfold inT at h2; cases u <;> simp at h2 <;> omega
  rcases h with h | ⟨h, h3⟩
  · have := L1 hd hy hq h k1
    omega
  · rcases h3 with rfl | rfl
    · have k1' : n * q < p * d := by simpa [inF] using h1
      have := L3 hd hy hq (by omega : x * d ≤ n * y) k1'
      omega
    · have k2' : p * y < x * q := by simpa [inT] using h2
      have := L2 hd hy hq (by omega : x * d ≤ n * y) k1
      omega
def Bd (n d : Int) : Prop := -1180591620717411303424 ≤ n ∧ n ≤ 1180591620717411303424 ∧ 0 < d ∧ d ≤ 1125899906842624
theorem mulb {n y A B : Int} (h1 : -A ≤ n) (h2 : n ≤ A) (h3 : 0 ≤ y) (h4 : y ≤ B) (hA : 0 ≤ A) : -(A * B) ≤ n * y ∧ n * y ≤ A * B := by
  have a1 := Int.mul_le_mul_of_nonneg_right h2 h3
  have a2 := Int.mul_le_mul_of_nonneg_left h4 hA
  have a3 := Int.mul_le_mul_of_nonneg_right h1 h3
  rw [Int.neg_mul] at a3; omega
theorem bd_ok {n d x y : Int} (h : Bd n d) (k : Bd x y) : okI (n * y) = true := by
  obtain ⟨h1, h2, h3, h4⟩ := h
  obtain ⟨k1, k2, k3, k4⟩ := k
  have := mulb h1 h2 (Int.le_of_lt k3) k4 (by omega)
  unfold okI
  apply decide_eq_true
  unfold InI b255
  omega
theorem pxl_bd {n d x y : Int} (h : Bd n d) (k : Bd x y) : pxl n d x y = cmpI (n * y) (x * d) := by
  unfold pxl rtC rtCk
  rw [bd_ok h k, bd_ok k h, decide_eq_true h.2.2.1, decide_eq_true k.2.2.1]
  rfl
def InS (fn fd tn td : Int) (fo to : Bool) (p q : Int) : Prop := inF fn fd fo p q ∧ inT tn td to p q
def BS (fn fd tn td : Int) : Prop := Bd fn fd ∧ Bd tn td
theorem cmpI_cases (x y : Int) : (x < y ∧ cmpI x y = -1) ∨ (x = y ∧ cmpI x y = 0) ∨ (y < x ∧ cmpI x y = 1) := by
  rcases Int.lt_trichotomy x y with h | h | h
  · exact .inl ⟨h, cmpI_lt h⟩
  · exact .inr (.inl ⟨h, by rw [h]; exact cmpI_eq _⟩)
  · exact .inr (.inr ⟨h, cmpI_gt h⟩)
theorem fr_sp {fn fd tn td x y : Int} (fo to o : Bool) (hS : BS fn fd tn td) (hx : Bd x y) :
    BS (frfn fn fd tn td fo to x y o) (frfd fn fd tn td fo to x y o) (frtn fn fd tn td fo to x y o) (frtd fn fd tn td fo to x y o) ∧
    ∀ p q, 0 < q → (InS (frfn fn fd tn td fo to x y o) (frfd fn fd tn td fo to x y o) (frtn fn fd tn td fo to x y o) (frtd fn fd tn td fo to x y o) (frfo fn fd tn td fo to x y o) (frto fn fd tn td fo to x y o) p q ↔ InS fn fd tn td fo to p q ∧ inF x y o p q) := by
  unfold frfn frfd frtn frtd frfo frto InS BS
  rw [pxl_bd hx hS.1]
  have hfd := hS.1.2.2.1
  have hy := hx.2.2.1
  have sw (p q : Int) : (inF fn fd fo p q ∧ inT tn td to p q) ∧ inF x y o p q ↔ (inF fn fd fo p q ∧ inF x y o p q) ∧ inT tn td to p q := by
    constructor <;> (intro h; simp only [h, and_self])
  rcases cmpI_cases (x * fd) (fn * y) with ⟨h, e⟩ | ⟨h, e⟩ | ⟨h, e⟩ <;> rw [e]
  · refine ⟨⟨hS.1, hS.2⟩, fun p q hq => ?_⟩
    rw [sw, cmb_gt hfd hy hq h]; exact Iff.rfl
  · refine ⟨⟨hS.1, hS.2⟩, fun p q hq => ?_⟩
    rw [sw, cmb_eq hfd hy hq h]
    cases fo <;> cases o <;> exact Iff.rfl
  · refine ⟨⟨hx, hS.2⟩, fun p q hq => ?_⟩
    rw [sw, cmb_lt hfd hy hq h]; exact Iff.rfl
theorem to_sp {fn fd tn td x y : Int} (fo to o : Bool) (hS : BS fn fd tn td) (hx : Bd x y) :
    BS (tofn fn fd tn td fo to x y o) (tofd fn fd tn td fo to x y o) (totn fn fd tn td fo to x y o) (totd fn fd tn td fo to x y o) ∧
    ∀ p q, 0 < q → (InS (tofn fn fd tn td fo to x y o) (tofd fn fd tn td fo to x y o) (totn fn fd tn td fo to x y o) (totd fn fd tn td fo to x y o) (tofo fn fd tn td fo to x y o) (toto fn fd tn td fo to x y o) p q ↔ InS fn fd tn td fo to p q ∧ inT x y o p q) := by
  unfold tofn tofd totn totd tofo toto InS BS
  rw [pxl_bd hx hS.2]
  have hfd := hS.2.2.2.1
  have hy := hx.2.2.1
  have sw (p q : Int) : (inF fn fd fo p q ∧ inT tn td to p q) ∧ inT x y o p q ↔ inF fn fd fo p q ∧ (inT tn td to p q ∧ inT x y o p q) := and_assoc
  rcases cmpI_cases (x * td) (tn * y) with ⟨h, e⟩ | ⟨h, e⟩ | ⟨h, e⟩ <;> rw [e]
  · refine ⟨⟨hS.1, hx⟩, fun p q hq => ?_⟩
    rw [sw, cmt_lt hfd hy hq h]; exact Iff.rfl
  · refine ⟨⟨hS.1, hS.2⟩, fun p q hq => ?_⟩
    rw [sw, cmt_eq hfd hy hq h]
    cases to <;> cases o <;> exact Iff.rfl
  · refine ⟨⟨hS.1, hS.2⟩, fun p q hq => ?_⟩
    rw [sw, cmt_gt hfd hy hq h]; exact Iff.rfl
/-- what a band asks -/
def inB (a b c d p q : Int) : Prop := c * q ≤ 2 * a * q + 2 * b * p ∧ 2 * a * q + 2 * b * p < d * q
def BdB (a b c d : Int) : Prop := -4398046511104 ≤ a ∧ a ≤ 4398046511104 ∧ -4398046511104 ≤ b ∧ b ≤ 4398046511104 ∧ -4611686018428436480 ≤ c ∧ c ≤ 4611686018428436480 ∧ -4611686018428436480 ≤ d ∧ d ≤ 4611686018428436480
theorem w64_id {x : Int} (h : -9223372036854775808 ≤ x) (k : x ≤ 9223372036854775807) : wrap64 x = x := wrap64_id (by unfold In64; omega)
theorem ba_sp {fn fd tn td a b c d : Int} (fo to : Bool) (hS : BS fn fd tn td) (hB : BdB a b c d) :
    (bak fn fd tn td fo to a b c d = true → BS (bafn fn fd tn td fo to a b c d) (bafd fn fd tn td fo to a b c d) (batn fn fd tn td fo to a b c d) (batd fn fd tn td fo to a b c d) ∧
      ∀ p q, 0 < q → (InS (bafn fn fd tn td fo to a b c d) (bafd fn fd tn td fo to a b c d) (batn fn fd tn td fo to a b c d) (batd fn fd tn td fo to a b c d) (bafo fn fd tn td fo to a b c d) (bato fn fd tn td fo to a b c d) p q ↔ InS fn fd tn td fo to p q ∧ inB a b c d p q)) ∧
    (bak fn fd tn td fo to a b c d = false → ∀ p q, 0 < q → ¬ inB a b c d p q) := by
  obtain ⟨h1, h2, h3, h4, h5, h6, h7, h8⟩ := hB
  have ea : wrap64 (2 * a) = 2 * a := w64_id (by omega) (by omega)
  have eb : wrap64 (2 * b) = 2 * b := w64_id (by omega) (by omega)
  have en : wrap64 (-(2 * b)) = -(2 * b) := w64_id (by omega) (by omega)
  have e1 : wrap64 (c - 2 * a) = c - 2 * a := w64_id (by omega) (by omega)
  have e2 : wrap64 (d - 2 * a) = d - 2 * a := w64_id (by omega) (by omega)
  have e3 : wrap64 (2 * a - c) = 2 * a - c := w64_id (by omega) (by omega)
  have e4 : wrap64 (2 * a - d) = 2 * a - d := w64_id (by omega) (by omega)
  unfold bak bafn bafd batn batd bafo bato pxbn pxbd
  rw [ea, eb, en, e1, e2, e3, e4]
  rcases Int.lt_trichotomy b 0 with hb | hb | hb
  · rw [decide_eq_false (by omega : ¬ 0 < 2 * b), decide_eq_true (by omega : 2 * b < 0)]
    simp only [cond_false, cond_true]
    refine ⟨fun _ => ?_, fun h => by simp at h⟩
    have x1 : Bd (2 * a - d) (-(2 * b)) := ⟨by omega, by omega, by omega, by omega⟩
    have x2 : Bd (2 * a - c) (-(2 * b)) := ⟨by omega, by omega, by omega, by omega⟩
    have s1 := fr_sp fo to true hS x1
    have s2 := to_sp (frfo fn fd tn td fo to (2 * a - d) (-(2 * b)) true) (frto fn fd tn td fo to (2 * a - d) (-(2 * b)) true) false s1.1 x2
    refine ⟨s2.1, fun p q hq => ?_⟩
    rw [s2.2 p q hq, s1.2 p q hq, and_assoc]
    have : inF (2 * a - d) (-(2 * b)) true p q ∧ inT (2 * a - c) (-(2 * b)) false p q ↔ inB a b c d p q := by
      unfold inF inT inB
      have g1 : (2 * a - d) * q = 2 * a * q - d * q := by grind
      have g2 : (2 * a - c) * q = 2 * a * q - c * q := by grind
      have g3 : p * (-(2 * b)) = -(2 * b * p) := by grind
      rw [g1, g2, g3]
      simp only [if_true, Bool.false_eq_true, if_false]
      omega
    rw [this]
  · subst hb
    simp only [Int.mul_zero, Int.lt_irrefl, decide_false, cond_false]
    have z (p q : Int) : inB a 0 c d p q ↔ c * q ≤ 2 * a * q ∧ 2 * a * q < d * q := by unfold inB; simp
    constructor
    · intro h
      refine ⟨hS, fun p q hq => ?_⟩
      have h' : c ≤ 2 * a ∧ 2 * a < d := by
        cases hc : decide (c ≤ 2 * a) <;> rw [hc] at h <;> simp at h hc
        exact ⟨hc, h⟩
      have t1 := Int.mul_le_mul_of_nonneg_right h'.1 (Int.le_of_lt hq)
      have t2 := Int.mul_lt_mul_of_pos_right h'.2 hq
      rw [z]
      exact ⟨fun k => ⟨k, t1, t2⟩, fun k => k.1⟩
    · intro h p q hq
      rw [z]
      rintro ⟨t1, t2⟩
      have t1' := Int.le_of_mul_le_mul_right t1 hq
      have t2' := Int.lt_of_mul_lt_mul_right t2 (Int.le_of_lt hq)
      rw [decide_eq_true t1', decide_eq_true t2'] at h
      simp at h
  · rw [decide_eq_true (by omega : 0 < 2 * b)]
    simp only [cond_true]
    refine ⟨fun _ => ?_, fun h => by simp at h⟩
    have x1 : Bd (c - 2 * a) (2 * b) := ⟨by omega, by omega, by omega, by omega⟩
    have x2 : Bd (d - 2 * a) (2 * b) := ⟨by omega, by omega, by omega, by omega⟩
    have s1 := fr_sp fo to false hS x1
    have s2 := to_sp (frfo fn fd tn td fo to (c - 2 * a) (2 * b) false) (frto fn fd tn td fo to (c - 2 * a) (2 * b) false) true s1.1 x2
    refine ⟨s2.1, fun p q hq => ?_⟩
    rw [s2.2 p q hq, s1.2 p q hq, and_assoc]
    have : inF (c - 2 * a) (2 * b) false p q ∧ inT (d - 2 * a) (2 * b) true p q ↔ inB a b c d p q := by
      unfold inF inT inB
      have g1 : (d - 2 * a) * q = d * q - 2 * a * q := by grind
      have g2 : (c - 2 * a) * q = c * q - 2 * a * q := by grind
      have g3 : p * (2 * b) = 2 * b * p := by grind
      rw [g1, g2, g3]
      simp only [if_true, Bool.false_eq_true, if_false]
      omega
    rw [this]
/-- is something of it left -/
theorem sm_sp {fn fd tn td : Int} (fo to : Bool) (hS : BS fn fd tn td) :
    (smk_ fn fd tn td fo to = true → ∃ p q, 0 < q ∧ InS fn fd tn td fo to p q) ∧ (smk_ fn fd tn td fo to = false → ∀ p q, 0 < q → ¬ InS fn fd tn td fo to p q) := by
  have h1 := hS.1.2.2.1
  have h2 := hS.2.2.2.1
  unfold smk_ InS
  rw [pxl_bd hS.1 hS.2]
  rcases cmpI_cases (fn * td) (tn * fd) with ⟨h, e⟩ | ⟨h, e⟩ | ⟨h, e⟩ <;> rw [e]
  · refine ⟨fun _ => ⟨_, _, ?_, mid_in h1 h2 h⟩, fun k => by simp at k⟩
    have := Int.mul_pos h1 h2
    omega
  · constructor
    · intro k
      cases fo <;> cases to <;> simp at k
      exact ⟨_, _, h1, at_in h1 h2 h⟩
    · intro k p q hq
      refine none_in h1 h2 hq (.inr ⟨h.symm, ?_⟩)
      cases fo <;> cases to <;> simp at k ⊢
  · refine ⟨fun k => by simp at k, fun _ p q hq => none_in h1 h2 hq (.inl h)⟩
theorem smfo_eq (fn fd tn td : Int) (fo to : Bool) : smfo fn fd tn td fo to = fo := by
  unfold smfo
  cases decide (pxl fn fd tn td < 0) <;> cases (pxl fn fd tn td == 0) <;> cases fo <;> rfl
def cuL (c n : Int) : Int := wrap64 ((wrap64 ((wrap64 (2 * c)) * n)) - n)
def cuH (c n : Int) : Int := wrap64 ((wrap64 ((wrap64 (2 * c)) * n)) + n)
def c1k (ax bx cx n : Int) : Bool := bak 0 1 1 1 false false ax (wrap64 (bx - ax)) (cuL cx n) (cuH cx n)
def c1fn (ax bx cx n : Int) : Int := bafn 0 1 1 1 false false ax (wrap64 (bx - ax)) (cuL cx n) (cuH cx n)
def c1fd (ax bx cx n : Int) : Int := bafd 0 1 1 1 false false ax (wrap64 (bx - ax)) (cuL cx n) (cuH cx n)
def c1tn (ax bx cx n : Int) : Int := batn 0 1 1 1 false false ax (wrap64 (bx - ax)) (cuL cx n) (cuH cx n)
def c1td (ax bx cx n : Int) : Int := batd 0 1 1 1 false false ax (wrap64 (bx - ax)) (cuL cx n) (cuH cx n)
def c1fo (ax bx cx n : Int) : Bool := bafo 0 1 1 1 false false ax (wrap64 (bx - ax)) (cuL cx n) (cuH cx n)
def c1to (ax bx cx n : Int) : Bool := bato 0 1 1 1 false false ax (wrap64 (bx - ax)) (cuL cx n) (cuH cx n)
def c2k (ax ay bx b_y cx cy n : Int) : Bool := bak (c1fn ax bx cx n) (c1fd ax bx cx n) (c1tn ax bx cx n) (c1td ax bx cx n) (c1fo ax bx cx n) (c1to ax bx cx n) ay (wrap64 (b_y - ay)) (cuL cy n) (cuH cy n)
def c2fn (ax ay bx b_y cx cy n : Int) : Int := bafn (c1fn ax bx cx n) (c1fd ax bx cx n) (c1tn ax bx cx n) (c1td ax bx cx n) (c1fo ax bx cx n) (c1to ax bx cx n) ay (wrap64 (b_y - ay)) (cuL cy n) (cuH cy n)
def c2fd (ax ay bx b_y cx cy n : Int) : Int := bafd (c1fn ax bx cx n) (c1fd ax bx cx n) (c1tn ax bx cx n) (c1td ax bx cx n) (c1fo ax bx cx n) (c1to ax bx cx n) ay (wrap64 (b_y - ay)) (cuL cy n) (cuH cy n)
def c2tn (ax ay bx b_y cx cy n : Int) : Int := batn (c1fn ax bx cx n) (c1fd ax bx cx n) (c1tn ax bx cx n) (c1td ax bx cx n) (c1fo ax bx cx n) (c1to ax bx cx n) ay (wrap64 (b_y - ay)) (cuL cy n) (cuH cy n)
def c2td (ax ay bx b_y cx cy n : Int) : Int := batd (c1fn ax bx cx n) (c1fd ax bx cx n) (c1tn ax bx cx n) (c1td ax bx cx n) (c1fo ax bx cx n) (c1to ax bx cx n) ay (wrap64 (b_y - ay)) (cuL cy n) (cuH cy n)
def c2fo (ax ay bx b_y cx cy n : Int) : Bool := bafo (c1fn ax bx cx n) (c1fd ax bx cx n) (c1tn ax bx cx n) (c1td ax bx cx n) (c1fo ax bx cx n) (c1to ax bx cx n) ay (wrap64 (b_y - ay)) (cuL cy n) (cuH cy n)
def c2to (ax ay bx b_y cx cy n : Int) : Bool := bato (c1fn ax bx cx n) (c1fd ax bx cx n) (c1tn ax bx cx n) (c1td ax bx cx n) (c1fo ax bx cx n) (c1to ax bx cx n) ay (wrap64 (b_y - ay)) (cuL cy n) (cuH cy n)
def cuk (ax ay bx b_y cx cy n : Int) : Bool := bif pxS n then (bif sgR ax ay bx b_y then (bif rp cx cy then (bif c1k ax bx cx n then (bif c2k ax ay bx b_y cx cy n then smk_ (c2fn ax ay bx b_y cx cy n) (c2fd ax ay bx b_y cx cy n) (c2tn ax ay bx b_y cx cy n) (c2td ax ay bx b_y cx cy n) (c2fo ax ay bx b_y cx cy n) (c2to ax ay bx b_y cx cy n) else false) else false) else false) else false) else false
def cufn (ax ay bx b_y cx cy n : Int) : Int := bif cuk ax ay bx b_y cx cy n then smfn (c2fn ax ay bx b_y cx cy n) (c2fd ax ay bx b_y cx cy n) (c2tn ax ay bx b_y cx cy n) (c2td ax ay bx b_y cx cy n) (c2fo ax ay bx b_y cx cy n) (c2to ax ay bx b_y cx cy n) else 0
def cufd (ax ay bx b_y cx cy n : Int) : Int := bif cuk ax ay bx b_y cx cy n then smfd (c2fn ax ay bx b_y cx cy n) (c2fd ax ay bx b_y cx cy n) (c2tn ax ay bx b_y cx cy n) (c2td ax ay bx b_y cx cy n) (c2fo ax ay bx b_y cx cy n) (c2to ax ay bx b_y cx cy n) else 0
def cutn (ax ay bx b_y cx cy n : Int) : Int := bif cuk ax ay bx b_y cx cy n then smtn (c2fn ax ay bx b_y cx cy n) (c2fd ax ay bx b_y cx cy n) (c2tn ax ay bx b_y cx cy n) (c2td ax ay bx b_y cx cy n) (c2fo ax ay bx b_y cx cy n) (c2to ax ay bx b_y cx cy n) else 0
def cutd (ax ay bx b_y cx cy n : Int) : Int := bif cuk ax ay bx b_y cx cy n then smtd (c2fn ax ay bx b_y cx cy n) (c2fd ax ay bx b_y cx cy n) (c2tn ax ay bx b_y cx cy n) (c2td ax ay bx b_y cx cy n) (c2fo ax ay bx b_y cx cy n) (c2to ax ay bx b_y cx cy n) else 0
def cufo (ax ay bx b_y cx cy n : Int) : Bool := bif cuk ax ay bx b_y cx cy n then smfo (c2fn ax ay bx b_y cx cy n) (c2fd ax ay bx b_y cx cy n) (c2tn ax ay bx b_y cx cy n) (c2td ax ay bx b_y cx cy n) (c2fo ax ay bx b_y cx cy n) (c2to ax ay bx b_y cx cy n) else false
def cuto (ax ay bx b_y cx cy n : Int) : Bool := bif cuk ax ay bx b_y cx cy n then smto (c2fn ax ay bx b_y cx cy n) (c2fd ax ay bx b_y cx cy n) (c2tn ax ay bx b_y cx cy n) (c2td ax ay bx b_y cx cy n) (c2fo ax ay bx b_y cx cy n) (c2to ax ay bx b_y cx cy n) else false
/-- the way is in the pixel at p / q -/
def inCC (ax ay bx b_y cx cy n p q : Int) : Prop := (0 ≤ p ∧ p ≤ q) ∧ inB ax (bx - ax) (2 * cx * n - n) (2 * cx * n + n) p q ∧ inB ay (b_y - ay) (2 * cy * n - n) (2 * cy * n + n) p q
theorem inC_iff (x : Int) : inC x = true ↔ -2199023255552 ≤ x ∧ x ≤ 2199023255552 := by unfold inC; simp
theorem rp_iff (x y : Int) : rp x y = true ↔ (-2199023255552 ≤ x ∧ x ≤ 2199023255552) ∧ (-2199023255552 ≤ y ∧ y ≤ 2199023255552) := by unfold rp; rw [Bool.and_eq_true, inC_iff, inC_iff]
theorem pxS_iff (n : Int) : pxS n = true ↔ 1 ≤ n ∧ n ≤ 1048576 := by
  unfold pxS
  cases h : decide (1 ≤ n) <;> simp at h ⊢ <;> omega
theorem sgR_iff (ax ay bx b_y : Int) : sgR ax ay bx b_y = true ↔ rp ax ay = true ∧ rp bx b_y = true := by
  unfold sgR
  cases rp ax ay <;> simp
theorem cuL_eq {c n : Int} (hc : -2199023255552 ≤ c ∧ c ≤ 2199023255552) (hn : 1 ≤ n ∧ n ≤ 1048576) :
    cuL c n = 2 * c * n - n ∧ cuH c n = 2 * c * n + n ∧ -4611686018427387904 ≤ 2 * c * n ∧ 2 * c * n ≤ 4611686018427387904 := by
  have e : wrap64 (2 * c) = 2 * c := w64_id (by omega) (by omega)
  have b := @mulb (2 * c) n 4398046511104 1048576 (by omega) (by omega) (by omega) (by omega) (by omega)
  have e2 : wrap64 (2 * c * n) = 2 * c * n := w64_id (by omega) (by omega)
  unfold cuL cuH
  rw [e, e2]
  exact ⟨w64_id (by omega) (by omega), w64_id (by omega) (by omega), by omega, by omega⟩
theorem InS_01 (p q : Int) : InS 0 1 1 1 false false p q ↔ 0 ≤ p ∧ p ≤ q := by unfold InS inF inT; simp
theorem cu_sp {ax ay bx b_y cx cy n : Int} (hn : pxS n = true) (hs : sgR ax ay bx b_y = true) (hc : rp cx cy = true) :
    (cuk ax ay bx b_y cx cy n = true → BS (cufn ax ay bx b_y cx cy n) (cufd ax ay bx b_y cx cy n) (cutn ax ay bx b_y cx cy n) (cutd ax ay bx b_y cx cy n) ∧ (∃ p q, 0 < q ∧ InS (cufn ax ay bx b_y cx cy n) (cufd ax ay bx b_y cx cy n) (cutn ax ay bx b_y cx cy n) (cutd ax ay bx b_y cx cy n) (cufo ax ay bx b_y cx cy n) (cuto ax ay bx b_y cx cy n) p q) ∧ ∀ p q, 0 < q → (InS (cufn ax ay bx b_y cx cy n) (cufd ax ay bx b_y cx cy n) (cutn ax ay bx b_y cx cy n) (cutd ax ay bx b_y cx cy n) (cufo ax ay bx b_y cx cy n) (cuto ax ay bx b_y cx cy n) p q ↔ inCC ax ay bx b_y cx cy n p q)) ∧
    (cuk ax ay bx b_y cx cy n = false → ∀ p q, 0 < q → ¬ inCC ax ay bx b_y cx cy n p q) := by
  have hn' := (pxS_iff n).1 hn
  have hs' := (sgR_iff _ _ _ _).1 hs
  have ha := (rp_iff _ _).1 hs'.1
  have hb := (rp_iff _ _).1 hs'.2
  have hc' := (rp_iff _ _).1 hc
  obtain ⟨x1, x2, x3, x4⟩ := cuL_eq hc'.1 hn'
  obtain ⟨y1, y2, y3, y4⟩ := cuL_eq hc'.2 hn'
  have wx : wrap64 (bx - ax) = bx - ax := w64_id (by omega) (by omega)
  have wy : wrap64 (b_y - ay) = b_y - ay := w64_id (by omega) (by omega)
  have B0 : BS 0 1 1 1 := ⟨⟨by omega, by omega, by omega, by omega⟩, by omega, by omega, by omega, by omega⟩
  have s1 := ba_sp false false B0 (a := ax) (b := bx - ax) (c := 2 * cx * n - n) (d := 2 * cx * n + n) ⟨by omega, by omega, by omega, by omega, by omega, by omega, by omega, by omega⟩
  rw [← wx, ← x1, ← x2] at s1
  have s1k : c1k ax bx cx n = true → _ := s1.1
  have s1n : c1k ax bx cx n = false → _ := s1.2
  have key : cuk ax ay bx b_y cx cy n = (bif c1k ax bx cx n then (bif c2k ax ay bx b_y cx cy n then smk_ (c2fn ax ay bx b_y cx cy n) (c2fd ax ay bx b_y cx cy n) (c2tn ax ay bx b_y cx cy n) (c2td ax ay bx b_y cx cy n) (c2fo ax ay bx b_y cx cy n) (c2to ax ay bx b_y cx cy n) else false) else false) := by
    unfold cuk; rw [hn, hs, hc]; rfl
  cases h1 : c1k ax bx cx n
  · rw [h1] at key
    refine ⟨fun h => by rw [h] at key; simp at key, fun _ p q hq k => s1n h1 p q hq ?_⟩
    have := k.2.1
    rw [← wx, ← x1, ← x2] at this
    exact this
  · obtain ⟨g1, g2⟩ := s1k h1
    have s2 := ba_sp (c1fo ax bx cx n) (c1to ax bx cx n) (show BS (c1fn ax bx cx n) (c1fd ax bx cx n) (c1tn ax bx cx n) (c1td ax bx cx n) from g1) (a := ay) (b := b_y - ay) (c := 2 * cy * n - n) (d := 2 * cy * n + n) ⟨by omega, by omega, by omega, by omega, by omega, by omega, by omega, by omega⟩
    rw [← wy, ← y1, ← y2] at s2
    have s2k : c2k ax ay bx b_y cx cy n = true → _ := s2.1
    have s2n : c2k ax ay bx b_y cx cy n = false → _ := s2.2
    rw [h1] at key
    cases h2 : c2k ax ay bx b_y cx cy n
    · rw [h2] at key
      refine ⟨fun h => by rw [h] at key; simp at key, fun _ p q hq k => s2n h2 p q hq ?_⟩
      have := k.2.2
      rw [← wy, ← y1, ← y2] at this
      exact this
    · obtain ⟨f1, f2⟩ := s2k h2
      rw [h2] at key
      have f1' : BS (c2fn ax ay bx b_y cx cy n) (c2fd ax ay bx b_y cx cy n) (c2tn ax ay bx b_y cx cy n) (c2td ax ay bx b_y cx cy n) := f1
      have eqv : ∀ p q, 0 < q → (InS (c2fn ax ay bx b_y cx cy n) (c2fd ax ay bx b_y cx cy n) (c2tn ax ay bx b_y cx cy n) (c2td ax ay bx b_y cx cy n) (c2fo ax ay bx b_y cx cy n) (c2to ax ay bx b_y cx cy n) p q ↔ inCC ax ay bx b_y cx cy n p q) := by
        intro p q hq
        have t2 : InS (c2fn ax ay bx b_y cx cy n) (c2fd ax ay bx b_y cx cy n) (c2tn ax ay bx b_y cx cy n) (c2td ax ay bx b_y cx cy n) (c2fo ax ay bx b_y cx cy n) (c2to ax ay bx b_y cx cy n) p q ↔ InS (c1fn ax bx cx n) (c1fd ax bx cx n) (c1tn ax bx cx n) (c1td ax bx cx n) (c1fo ax bx cx n) (c1to ax bx cx n) p q ∧ inB ay (wrap64 (b_y - ay)) (cuL cy n) (cuH cy n) p q := f2 p q hq
        have t1 : InS (c1fn ax bx cx n) (c1fd ax bx cx n) (c1tn ax bx cx n) (c1td ax bx cx n) (c1fo ax bx cx n) (c1to ax bx cx n) p q ↔ InS 0 1 1 1 false false p q ∧ inB ax (wrap64 (bx - ax)) (cuL cx n) (cuH cx n) p q := g2 p q hq
        rw [t2, t1, InS_01, wx, wy, x1, x2, y1, y2, and_assoc]
        exact Iff.rfl
      have s3 := sm_sp (c2fo ax ay bx b_y cx cy n) (c2to ax ay bx b_y cx cy n) f1'
      cases h3 : cuk ax ay bx b_y cx cy n
      · rw [h3] at key
        refine ⟨fun h => by simp at h, fun _ p q hq k => ?_⟩
        exact s3.2 key.symm p q hq ((eqv p q hq).2 k)
      · rw [h3] at key
        refine ⟨fun _ => ?_, fun h => by simp at h⟩
        unfold cufn cufd cutn cutd cufo cuto smfn smfd smtn smtd smto
        rw [h3, smfo_eq]
        exact ⟨f1', s3.1 key.symm, eqv⟩
/-- fractions with one denominator -/
theorem sc_F {n d F p M : Int} {o : Bool} (hd : 0 < d) (e : n * M = F * d) : inF n d o p M ↔ (if o then F < p else F ≤ p) := by
  have h1 : n * M < p * d ↔ F < p := by rw [e]; exact ⟨fun h => Int.lt_of_mul_lt_mul_right h (Int.le_of_lt hd), fun h => Int.mul_lt_mul_of_pos_right h hd⟩
  have h2 : n * M ≤ p * d ↔ F ≤ p := by rw [e]; exact ⟨fun h => Int.le_of_mul_le_mul_right h hd, fun h => Int.mul_le_mul_of_nonneg_right h (Int.le_of_lt hd)⟩
  unfold inF
  cases o <;> simp [h1, h2]
theorem sc_T {n d F p M : Int} {o : Bool} (hd : 0 < d) (e : n * M = F * d) : inT n d o p M ↔ (if o then p < F else p ≤ F) := by
  have h1 : p * d < n * M ↔ p < F := by rw [e]; exact ⟨fun h => Int.lt_of_mul_lt_mul_right h (Int.le_of_lt hd), fun h => Int.mul_lt_mul_of_pos_right h hd⟩
  have h2 : p * d ≤ n * M ↔ p ≤ F := by rw [e]; exact ⟨fun h => Int.le_of_mul_le_mul_right h hd, fun h => Int.mul_le_mul_of_nonneg_right h (Int.le_of_lt hd)⟩
  unfold inT
  cases o <;> simp [h1, h2]
theorem sc_lt {n d F x y X M : Int} (hM : 0 < M) (hd : 0 < d) (hy : 0 < y) (e : n * M = F * d) (k : x * M = X * y) (h : F < X) : n * y < x * d := by
  have h1 := Int.mul_lt_mul_of_pos_right h (Int.mul_pos hd hy)
  have e1 : F * (d * y) = n * y * M := by
    have : F * (d * y) = F * d * y := by grind
    rw [this, ← e]; grind
  have e2 : X * (d * y) = x * d * M := by
    have : X * (d * y) = X * y * d := by grind
    rw [this, ← k]; grind
  rw [e1, e2] at h1
  exact Int.lt_of_mul_lt_mul_right h1 (Int.le_of_lt hM)
theorem sc_eq {n d F x y X M : Int} (hM : 0 < M) (e : n * M = F * d) (k : x * M = X * y) (h : F = X) : n * y = x * d := by
  have e1 : F * (d * y) = n * y * M := by
    have : F * (d * y) = F * d * y := by grind
    rw [this, ← e]; grind
  have e2 : X * (d * y) = x * d * M := by
    have : X * (d * y) = X * y * d := by grind
    rw [this, ← k]; grind
  rw [h, e2] at e1
  exact (Int.eq_of_mul_eq_mul_right (Int.ne_of_gt hM) e1).symm
theorem sc_cmp {n d F x y X M : Int} (hM : 0 < M) (hd : 0 < d) (hy : 0 < y) (e : n * M = F * d) (k : x * M = X * y) : cmpI (n * y) (x * d) = cmpI F X := by
  rcases Int.lt_trichotomy F X with h | h | h
  · rw [cmpI_lt h, cmpI_lt (sc_lt hM hd hy e k h)]
  · rw [sc_eq hM e k h, h, cmpI_eq, cmpI_eq]
  · rw [cmpI_gt h, cmpI_gt (sc_lt hM hy hd k e h)]
/-- a stretch that has a point, in whole numbers -/
theorem sc_some {fn fd tn td F T M : Int} {fo to : Bool} (hM : 0 < M) (h1 : 0 < fd) (h2 : 0 < td) (e : fn * M = F * fd) (k : tn * M = T * td) (h : ∃ p q, 0 < q ∧ InS fn fd tn td fo to p q) :
    F < T ∨ (F = T ∧ fo = false ∧ to = false) := by
  obtain ⟨p, q, hq, hp⟩ := h
  rcases Int.lt_trichotomy F T with g | g | g
  · exact .inl g
  · refine .inr ⟨g, ?_⟩
    have := sc_eq hM e k g
    cases fo <;> cases to <;> first | exact ⟨rfl, rfl⟩ | exact absurd hp (none_in h1 h2 hq (.inr ⟨this.symm, by simp⟩))
  · exact absurd hp (none_in h1 h2 hq (.inl (sc_lt hM h2 h1 k e g)))
/-- two stretches that have no point in common -/
theorem apart {a b c d a2 b2 c2 d2 : Int} {o u o2 u2 : Bool} (hS : BS a b c d) (hS2 : BS a2 b2 c2 d2)
    (h1 : ∃ p q, 0 < q ∧ InS a b c d o u p q) (h2 : ∃ p q, 0 < q ∧ InS a2 b2 c2 d2 o2 u2 p q) (hd : ∀ p q, 0 < q → InS a b c d o u p q → InS a2 b2 c2 d2 o2 u2 p q → False) :
    (cmpI (a * b2) (a2 * b) = 0 → o ≠ o2) ∧
    (cmpI (a * b2) (a2 * b) = -1 ∨ (cmpI (a * b2) (a2 * b) = 0 ∧ o = false ∧ o2 = true) → cmpI (c * b2) (a2 * d) = -1 ∨ (cmpI (c * b2) (a2 * d) = 0 ∧ (u = true ∨ o2 = true))) := by
  have q1 := hS.1.2.2.1
  have q2 := hS.2.2.2.1
  have q3 := hS2.1.2.2.1
  have q4 := hS2.2.2.2.1
  have hM : 0 < 2 * (b * d * b2 * d2) := by
    have := Int.mul_pos (Int.mul_pos (Int.mul_pos q1 q2) q3) q4
    omega
  have e1 : a * (2 * (b * d * b2 * d2)) = 2 * (a * d * b2 * d2) * b := by grind
  have e2 : c * (2 * (b * d * b2 * d2)) = 2 * (c * b * b2 * d2) * d := by grind
  have e3 : a2 * (2 * (b * d * b2 * d2)) = 2 * (a2 * b * d * d2) * b2 := by grind
  have e4 : c2 * (2 * (b * d * b2 * d2)) = 2 * (c2 * b * d * b2) * d2 := by grind
  generalize 2 * (b * d * b2 * d2) = M at hM e1 e2 e3 e4
  generalize a * d * b2 * d2 = A at e1
  generalize c * b * b2 * d2 = C at e2
  generalize a2 * b * d * d2 = A2 at e3
  generalize c2 * b * d * b2 = C2 at e4
  have n1 := sc_some hM q1 q2 e1 e2 h1
  have n2 := sc_some hM q3 q4 e3 e4 h2
  rw [sc_cmp hM q1 q3 e1 e3, sc_cmp hM q2 q3 e2 e3]
  have D : ∀ p, (if o then 2 * A < p else 2 * A ≤ p) → (if u then p < 2 * C else p ≤ 2 * C) → (if o2 then 2 * A2 < p else 2 * A2 ≤ p) → (if u2 then p < 2 * C2 else p ≤ 2 * C2) → False := fun p k1 k2 k3 k4 =>
    hd p M hM ⟨(sc_F q1 e1).2 k1, (sc_T q2 e2).2 k2⟩ ⟨(sc_F q3 e3).2 k3, (sc_T q4 e4).2 k4⟩
  have D1 := D (2 * A)
  have D2 := D (2 * A + 1)
  have D3 := D (2 * A2)
  have D4 := D (2 * A2 + 1)
  clear D hd h1 h2 e1 e2 e3 e4
  have z1 := cmpI_cases (2 * A) (2 * A2)
  have z2 := cmpI_cases (2 * C) (2 * A2)
  generalize cmpI (2 * A) (2 * A2) = s at z1 ⊢
  generalize cmpI (2 * C) (2 * A2) = r at z2 ⊢
  cases o <;> cases u <;> cases o2 <;> cases u2 <;> simp at D1 D2 D3 D4 n1 n2 ⊢ <;> omega
end Go.Proofs.Ytlcbomjdbdgbmaa

namespace Go.Proofs.Ytlcbomjdbdgbmaa
open Go.RowKit

/-- a run through places that rise, and what is between each two of them -/
structure CI where
  some : Bool
  f : Int
  t : Int
  o : Bool
  u : Bool
def hitI (h : Int → Bool) (k : Int) (s : CI) : CI := bif h (2 * k) then ⟨true, bif s.some then s.f else k, k, s.o, false⟩ else s
def midI (h : Int → Bool) (k k' : Int) (s : CI) : CI := bif h (k + k') then ⟨true, bif s.some then s.f else k, k', bif s.some then s.o else true, true⟩ else s
def runI (h : Int → Bool) : List Int → CI → CI
  | [], s => s
  | k :: [], s => hitI h k s
  | k :: k' :: r, s => runI h (k' :: r) (midI h k k' (hitI h k s))
/-- they rise -/
def Ris : List Int → Prop
  | [] => True
  | _ :: [] => True
  | k :: k' :: r => k < k' ∧ Ris (k' :: r)
theorem Ris.all {k : Int} {l : List Int} (h : Ris (k :: l)) : ∀ x ∈ l, k < x := by
  induction l generalizing k with
  | nil => intro x hx; cases hx
  | cons y r ih =>
    intro x hx
    have h1 := h.1
    rcases List.mem_cons.1 hx with rfl | hx
    · exact h1
    · have := ih h.2 x hx; omega
def insI (F T : Int) (fo to : Bool) (k : Int) : Bool := (bif fo then decide (2 * F < k) else decide (2 * F ≤ k)) && (bif to then decide (k < 2 * T) else decide (k ≤ 2 * T))
theorem run_past {F T : Int} {fo to : Bool} (s : CI) : ∀ (l : List Int), Ris l → (∀ x ∈ l, T < x) → runI (insI F T fo to) l s = s := by
  intro l
  induction l with
  | nil => intro _ _; rfl
  | cons k r ih =>
    intro hr ha
    have h1 := ha k (List.mem_cons_self ..)
    have n1 : ∀ x, 2 * T < x → insI F T fo to x = false := fun x hx => by
      unfold insI
      rw [decide_eq_false (show ¬ x < 2 * T by omega), decide_eq_false (show ¬ x ≤ 2 * T by omega)]
      cases to <;> simp
    cases r with
    | nil => show hitI _ k s = s; unfold hitI; rw [n1 _ (by omega)]; rfl
    | cons k' r =>
      have h2 := ha k' (by simp)
      show runI _ (k' :: r) (midI _ k k' (hitI _ k s)) = s
      unfold midI hitI
      rw [n1 _ (by omega), n1 _ (by omega)]
      exact ih hr.2 (fun x hx => ha x (List.mem_cons_of_mem _ hx))
theorem run_mem {F T : Int} {fo to : Bool} : ∀ (l : List Int) (k : Int), Ris (k :: l) → F < k → T ∈ k :: l → runI (insI F T fo to) (k :: l) ⟨true, F, k, fo, true⟩ = ⟨true, F, T, fo, to⟩ := by
  intro l
  induction l with
  | nil =>
    intro k hr hk hT
    have e : T = k := by simpa using hT
    subst e
    show hitI _ T _ = _
    unfold hitI insI
    rw [decide_eq_true (show 2 * F < 2 * T by omega), decide_eq_true (show 2 * F ≤ 2 * T by omega)]
    cases fo <;> cases to <;> simp
  | cons k' r ih =>
    intro k hr hk hT
    have h1 := hr.1
    by_cases e : T = k
    · subst e
      have hgt := hr.all
      show runI _ (k' :: r) (midI _ T k' (hitI _ T _)) = _
      have n1 : insI F T fo to (T + k') = false := by
        unfold insI
        rw [decide_eq_false (show ¬ T + k' < 2 * T by omega), decide_eq_false (show ¬ T + k' ≤ 2 * T by omega)]
        cases to <;> simp
      have e2 : midI (insI F T fo to) T k' (hitI (insI F T fo to) T ⟨true, F, T, fo, true⟩) = ⟨true, F, T, fo, to⟩ := by
        unfold midI
        rw [n1]
        unfold hitI insI
        rw [decide_eq_true (show 2 * F < 2 * T by omega), decide_eq_true (show 2 * F ≤ 2 * T by omega)]
        cases fo <;> cases to <;> simp
      rw [e2]
      exact run_past _ _ hr.2 hgt
    · have hT' : T ∈ k' :: r := by
        rcases List.mem_cons.1 hT with h | h
        · exact absurd h e
        · exact h
      have hle : k' ≤ T := by
        rcases List.mem_cons.1 hT' with h | h
        · omega
        · have := hr.2.all T h; omega
      show runI _ (k' :: r) (midI _ k k' (hitI _ k _)) = _
      have y1 : insI F T fo to (2 * k) = true := by
        unfold insI
        rw [decide_eq_true (show 2 * F < 2 * k by omega), decide_eq_true (show 2 * F ≤ 2 * k by omega), decide_eq_true (show 2 * k < 2 * T by omega), decide_eq_true (show 2 * k ≤ 2 * T by omega)]
        cases fo <;> cases to <;> rfl
      have y2 : insI F T fo to (k + k') = true := by
        unfold insI
        rw [decide_eq_true (show 2 * F < k + k' by omega), decide_eq_true (show 2 * F ≤ k + k' by omega), decide_eq_true (show k + k' < 2 * T by omega), decide_eq_true (show k + k' ≤ 2 * T by omega)]
        cases fo <;> cases to <;> rfl
      have e2 : midI (insI F T fo to) k k' (hitI (insI F T fo to) k ⟨true, F, k, fo, true⟩) = ⟨true, F, k', fo, true⟩ := by
        unfold midI hitI
        rw [y1, y2]; rfl
      rw [e2]
      exact ih k' hr.2 (by omega) hT'
theorem run_all {F T f0 t0 : Int} {fo to u0 : Bool} (hFT : F < T ∨ (F = T ∧ fo = false ∧ to = false)) : ∀ (l : List Int) (k : Int), Ris (k :: l) → F ∈ k :: l → T ∈ k :: l →
    runI (insI F T fo to) (k :: l) ⟨false, f0, t0, false, u0⟩ = ⟨true, F, T, fo, to⟩ := by
  intro l
  induction l with
  | nil =>
    intro k hr hF hT
    have e : F = k := by simpa using hF
    have e' : T = k := by simpa using hT
    subst e; subst e'
    obtain ⟨_, rfl, rfl⟩ : T = T ∧ fo = false ∧ to = false := by rcases hFT with h | h; omega; exact h
    show hitI _ T _ = _
    unfold hitI insI
    simp
  | cons k' r ih =>
    intro k hr hF hT
    have h1 := hr.1
    show runI _ (k' :: r) (midI _ k k' (hitI _ k _)) = _
    by_cases e : F = k
    · subst e
      rcases hFT with h | ⟨rfl, rfl, rfl⟩
      · have hT' : T ∈ k' :: r := by
          rcases List.mem_cons.1 hT with g | g
          · omega
          · exact g
        have hle : k' ≤ T := by
          rcases List.mem_cons.1 hT' with g | g
          · omega
          · have := hr.2.all T g; omega
        have y2 : insI F T fo to (F + k') = true := by
          unfold insI
          rw [decide_eq_true (show 2 * F < F + k' by omega), decide_eq_true (show 2 * F ≤ F + k' by omega), decide_eq_true (show F + k' < 2 * T by omega), decide_eq_true (show F + k' ≤ 2 * T by omega)]
          cases fo <;> cases to <;> rfl
        have e2 : midI (insI F T fo to) F k' (hitI (insI F T fo to) F ⟨false, f0, t0, false, u0⟩) = ⟨true, F, k', fo, true⟩ := by
          unfold midI
          rw [y2]
          unfold hitI insI
          rw [decide_eq_true (show 2 * F < 2 * T by omega), decide_eq_true (show 2 * F ≤ 2 * T by omega)]
          cases fo <;> cases to <;> simp
        rw [e2]
        exact run_mem r k' hr.2 h1 hT'
      · have n1 : insI F F false false (F + k') = false := by
          unfold insI
          rw [decide_eq_false (show ¬ F + k' ≤ 2 * F by omega)]
          simp
        have e2 : midI (insI F F false false) F k' (hitI (insI F F false false) F ⟨false, f0, t0, false, u0⟩) = ⟨true, F, F, false, false⟩ := by
          unfold midI
          rw [n1]
          unfold hitI insI
          simp
        rw [e2]
        exact run_past _ _ hr.2 hr.all
    · have hF' : F ∈ k' :: r := by
        rcases List.mem_cons.1 hF with g | g
        · exact absurd g e
        · exact g
      have hle : k' ≤ F := by
        rcases List.mem_cons.1 hF' with g | g
        · omega
        · have := hr.2.all F g; omega
      have hT' : T ∈ k' :: r := by
        rcases List.mem_cons.1 hT with g | g
        · omega
        · exact g
      have n1 : ∀ x, x < 2 * F → insI F T fo to x = false := fun x hx => by
        unfold insI
        rw [decide_eq_false (show ¬ 2 * F < x by omega), decide_eq_false (show ¬ 2 * F ≤ x by omega)]
        cases fo <;> simp
      have e2 : midI (insI F T fo to) k k' (hitI (insI F T fo to) k ⟨false, f0, t0, false, u0⟩) = ⟨false, f0, t0, false, u0⟩ := by
        unfold midI hitI
        rw [n1 _ (by omega), n1 _ (by omega)]
        rfl
      rw [e2]
      exact ih k' hr.2 hF' hT'
theorem run_no {h : Int → Bool} (hn : ∀ x, h x = false) (s : CI) : ∀ l, runI h l s = s := by
  intro l
  induction l with
  | nil => rfl
  | cons k r ih =>
    cases r with
    | nil => show hitI _ k s = s; unfold hitI; rw [hn]; rfl
    | cons k' r => show runI _ (k' :: r) (midI _ k k' (hitI _ k s)) = s; unfold midI hitI; rw [hn, hn]; exact ih
/-- the run of gromaref15.Cut -/
structure CS where
  some : Bool
  fn : Int
  fd : Int
  tn : Int
  td : Int
  o : Bool
  u : Bool
def hitF (P : Int → Int → Bool) (x : Int × Int) (s : CS) : CS := bif P x.1 x.2 then ⟨true, bif s.some then s.fn else x.1, bif s.some then s.fd else x.2, x.1, x.2, s.o, false⟩ else s
def midF (P : Int → Int → Bool) (x y : Int × Int) (s : CS) : CS :=
  bif P (x.1 * y.2 + y.1 * x.2) (x.2 * y.2 + x.2 * y.2) then ⟨true, bif s.some then s.fn else x.1, bif s.some then s.fd else x.2, y.1, y.2, bif s.some then s.o else true, true⟩ else s
def runF (P : Int → Int → Bool) : List (Int × Int) → CS → CS
  | [], s => s
  | x :: [], s => hitF P x s
  | x :: y :: r, s => runF P (y :: r) (midF P x y (hitF P x s))
/-- a fraction from 0 to 1, in whole numbers -/
structure Sc (M : Int) (x : Int × Int) (k : Int) : Prop where
  d : 0 < x.2
  e : x.1 * M = 2 * k * x.2
  n0 : 0 ≤ x.1
  n1 : x.1 ≤ x.2
def All2 (M : Int) : List (Int × Int) → List Int → Prop
  | [], [] => True
  | x :: l, k :: K => Sc M x k ∧ All2 M l K
  | _, _ => False
structure Rel (M : Int) (s : CS) (c : CI) : Prop where
  some : s.some = c.some
  o : s.o = c.o
  u : s.u = c.u
  f : c.some = true → Sc M (s.fn, s.fd) c.f
  t : c.some = true → Sc M (s.tn, s.td) c.t
theorem hit_rel {P : Int → Int → Bool} {h : Int → Bool} {M : Int} (hP : ∀ p q B, 0 < q → 0 ≤ p → p ≤ q → p * M = B * q → P p q = h B) {x : Int × Int} {k : Int} {s : CS} {c : CI} (hx : Sc M x k) (hr : Rel M s c) : Rel M (hitF P x s) (hitI h k c) := by
  unfold hitF hitI
  rw [hP x.1 x.2 (2 * k) hx.d hx.n0 hx.n1 hx.e]
  cases h (2 * k)
  · exact hr
  · refine ⟨rfl, hr.o, rfl, fun _ => ?_, fun _ => hx⟩
    show Sc M (bif s.some then s.fn else x.1, bif s.some then s.fd else x.2) (bif c.some then c.f else k)
    rw [hr.some]
    cases hc : c.some
    · exact hx
    · exact hr.f hc
theorem mid_rel {P : Int → Int → Bool} {h : Int → Bool} {M : Int} (hP : ∀ p q B, 0 < q → 0 ≤ p → p ≤ q → p * M = B * q → P p q = h B) {x y : Int × Int} {k j : Int} {s : CS} {c : CI} (hx : Sc M x k) (hy : Sc M y j) (hr : Rel M s c) : Rel M (midF P x y s) (midI h k j c) := by
  unfold midF midI
  have hd := Int.mul_pos hx.d hy.d
  have b1 : 0 ≤ x.1 * y.2 := Int.mul_nonneg hx.n0 (Int.le_of_lt hy.d)
  have b2 : 0 ≤ y.1 * x.2 := Int.mul_nonneg hy.n0 (Int.le_of_lt hx.d)
  have b3 : x.1 * y.2 ≤ x.2 * y.2 := Int.mul_le_mul_of_nonneg_right hx.n1 (Int.le_of_lt hy.d)
  have b4 : y.1 * x.2 ≤ y.2 * x.2 := Int.mul_le_mul_of_nonneg_right hy.n1 (Int.le_of_lt hx.d)
  have b5 : y.2 * x.2 = x.2 * y.2 := Int.mul_comm _ _
  have e : (x.1 * y.2 + y.1 * x.2) * M = (k + j) * (x.2 * y.2 + x.2 * y.2) := by
    have e1 := hx.e
    have e2 := hy.e
    have f1 : (x.1 * y.2 + y.1 * x.2) * M = (x.1 * M) * y.2 + (y.1 * M) * x.2 := by grind
    rw [f1, e1, e2]; grind
  rw [hP _ _ (k + j) (by omega) (by omega) (by omega) e]
  cases h (k + j)
  · exact hr
  · refine ⟨rfl, ?_, rfl, fun _ => ?_, fun _ => hy⟩
    · show (bif s.some then s.o else true) = (bif c.some then c.o else true)
      rw [hr.some, hr.o]
    · show Sc M (bif s.some then s.fn else x.1, bif s.some then s.fd else x.2) (bif c.some then c.f else k)
      rw [hr.some]
      cases hc : c.some
      · exact hx
      · exact hr.f hc
theorem run_rel {P : Int → Int → Bool} {h : Int → Bool} {M : Int} (hP : ∀ p q B, 0 < q → 0 ≤ p → p ≤ q → p * M = B * q → P p q = h B) : ∀ (l : List (Int × Int)) (K : List Int) (s : CS) (c : CI), All2 M l K → Rel M s c → Rel M (runF P l s) (runI h K c) := by
  intro l
  induction l with
  | nil => intro K s c ha hr; cases K with | nil => exact hr | cons _ _ => exact ha.elim
  | cons x l ih =>
    intro K s c ha hr
    cases K with
    | nil => exact ha.elim
    | cons k K =>
      cases l with
      | nil =>
        cases K with
        | nil => exact hit_rel hP ha.1 hr
        | cons _ _ => exact ha.2.elim
      | cons y l =>
        cases K with
        | nil => exact ha.2.elim
        | cons j K => exact ih (j :: K) _ _ ha.2 (mid_rel hP ha.1 ha.2.1 (hit_rel hP ha.1 hr))
/-- one more, in its place -/
def putF (x : Int × Int) : List (Int × Int) → List (Int × Int)
  | [] => [x]
  | y :: r => if cmpI (y.1 * x.2) (x.1 * y.2) < 0 then y :: putF x r else if cmpI (y.1 * x.2) (x.1 * y.2) = 0 then y :: r else x :: y :: r
def insK (k : Int) : List Int → List Int
  | [] => [k]
  | j :: r => if j < k then j :: insK k r else if j = k then j :: r else k :: j :: r
theorem sc_cmpK {M : Int} (hM : 0 < M) {x y : Int × Int} {k j : Int} (hx : Sc M x k) (hy : Sc M y j) : cmpI (y.1 * x.2) (x.1 * y.2) = cmpI j k := by
  rw [sc_cmp hM hy.d hx.d hy.e hx.e]
  rcases Int.lt_trichotomy j k with h | h | h
  · rw [cmpI_lt h, cmpI_lt (by omega)]
  · rw [h, cmpI_eq, cmpI_eq]
  · rw [cmpI_gt h, cmpI_gt (by omega)]
theorem put_ins {M : Int} (hM : 0 < M) {x : Int × Int} {k : Int} (hx : Sc M x k) : ∀ (l : List (Int × Int)) (K : List Int), All2 M l K → All2 M (putF x l) (insK k K) := by
  intro l
  induction l with
  | nil => intro K ha; cases K with | nil => exact ⟨hx, trivial⟩ | cons _ _ => exact ha.elim
  | cons y l ih =>
    intro K ha
    cases K with
    | nil => exact ha.elim
    | cons j K =>
      unfold putF insK
      rw [sc_cmpK hM hx ha.1]
      rcases Int.lt_trichotomy j k with h | h | h
      · rw [cmpI_lt h, if_pos (by decide), if_pos h]; exact ⟨ha.1, ih K ha.2⟩
      · rw [h, cmpI_eq, if_neg (by decide), if_pos rfl, if_neg (by omega), if_pos rfl, ← h]; exact ha
      · rw [cmpI_gt h, if_neg (by decide), if_neg (by decide), if_neg (by omega), if_neg (by omega)]; exact ⟨hx, ha⟩
theorem ins_mem {k y : Int} : ∀ K : List Int, y ∈ insK k K ↔ y = k ∨ y ∈ K := by
  intro K
  induction K with
  | nil => simp [insK]
  | cons j r ih =>
    unfold insK
    split
    · rw [List.mem_cons, ih, List.mem_cons]
      constructor
      · rintro (h | h | h)
        · exact .inr (.inl h)
        · exact .inl h
        · exact .inr (.inr h)
      · rintro (h | h | h)
        · exact .inr (.inl h)
        · exact .inl h
        · exact .inr (.inr h)
    · split
      · rename_i h; rw [List.mem_cons]; constructor
        · exact .inr
        · rintro (g | g)
          · exact .inl (by omega)
          · exact g
      · rw [List.mem_cons]
theorem ris_cons {k : Int} {l : List Int} (h : Ris l) (ha : ∀ x ∈ l, k < x) : Ris (k :: l) := by
  cases l with
  | nil => trivial
  | cons y r => exact ⟨ha y (List.mem_cons_self ..), h⟩
theorem Ris.tail {k : Int} {l : List Int} (h : Ris (k :: l)) : Ris l := by
  cases l with
  | nil => trivial
  | cons y r => exact h.2
theorem ins_ris {k : Int} : ∀ K : List Int, Ris K → Ris (insK k K) := by
  intro K
  induction K with
  | nil => intro _; trivial
  | cons j r ih =>
    intro h
    unfold insK
    split
    · rename_i g
      refine ris_cons (ih h.tail) fun x hx => ?_
      rcases (ins_mem r).1 hx with rfl | hx
      · exact g
      · exact h.all x hx
    · split
      · exact h
      · rename_i g1 g2; exact ⟨by omega, h⟩
/-- one edge's fraction -/
def edN (w g : Int) : Int := if w < 0 then -g else g
def edD (w : Int) : Int := if w < 0 then -(2 * w) else 2 * w
def dxx (w : Int) : Int := if w = 0 then 1 else edD w
def tsF (w g : Int) (l : List (Int × Int)) : List (Int × Int) := if w = 0 then l else if 0 ≤ edN w g ∧ edN w g ≤ edD w then putF (edN w g, edD w) l else l
def tsK (w g m : Int) (K : List Int) : List Int := if w = 0 then K else if 0 ≤ edN w g ∧ edN w g ≤ edD w then insK (edN w g * m) K else K
theorem edD_pos {w : Int} (h : w ≠ 0) : 0 < edD w := by unfold edD; split <;> omega
theorem dxx_pos (w : Int) : 0 < dxx w := by unfold dxx; split; omega; exact edD_pos ‹_›
theorem ts_ins {w g m : Int} (hm : 0 < m) {l : List (Int × Int)} {K : List Int} (ha : All2 (2 * (dxx w * m)) l K) : All2 (2 * (dxx w * m)) (tsF w g l) (tsK w g m K) := by
  unfold tsF tsK
  split
  · exact ha
  · rename_i hw
    split
    · rename_i hg
      have hd := edD_pos hw
      have e : dxx w = edD w := by unfold dxx; rw [if_neg hw]
      refine put_ins (by have := Int.mul_pos (dxx_pos w) hm; omega) ⟨hd, ?_, hg.1, hg.2⟩ _ _ ha
      show edN w g * (2 * (dxx w * m)) = 2 * (edN w g * m) * edD w
      rw [e]; grind
    · exact ha
theorem ts_ris {w g m : Int} {K : List Int} (h : Ris K) : Ris (tsK w g m K) := by
  unfold tsK
  split
  · exact h
  · split
    · exact ins_ris _ h
    · exact h
theorem ts_mono {w g m x : Int} {K : List Int} (h : x ∈ K) : x ∈ tsK w g m K := by
  unfold tsK
  split
  · exact h
  · split
    · exact (ins_mem _).2 (.inr h)
    · exact h
/-- is it an edge's fraction -/
def Edg (w g n d : Int) : Prop := w ≠ 0 ∧ n = edN w g ∧ d = edD w
theorem edg_mem {w g m n d F : Int} (hm : 0 < m) {K : List Int} (hE : Edg w g n d) (e : n * (2 * (dxx w * m)) = 2 * F * d) (h0 : 0 ≤ F) (h1 : F ≤ dxx w * m) : F ∈ tsK w g m K := by
  obtain ⟨hw, rfl, rfl⟩ := hE
  have hd := edD_pos hw
  have ed : dxx w = edD w := by unfold dxx; rw [if_neg hw]
  rw [ed] at e h1
  have eF : F = edN w g * m := by
    have e1 : edN w g * (2 * (edD w * m)) = edN w g * m * (2 * edD w) := by grind
    have e2 : 2 * F * edD w = F * (2 * edD w) := by grind
    rw [e1, e2] at e
    exact (Int.eq_of_mul_eq_mul_right (by omega) e).symm
  have g0 : 0 ≤ edN w g := by
    rcases Int.lt_or_le (edN w g) 0 with h | h
    · have := Int.mul_neg_of_neg_of_pos h hm; omega
    · exact h
  have g1 : edN w g ≤ edD w := by
    rw [eF] at h1
    exact Int.le_of_mul_le_mul_right h1 hm
  unfold tsK
  rw [if_neg hw, if_pos ⟨g0, g1⟩]
  exact (ins_mem _).2 (.inl eF)
structure Ways where
  wx : Int
  wy : Int
  g1 : Int
  g2 : Int
  g3 : Int
  g4 : Int
def Ways.ts (v : Ways) : List (Int × Int) := tsF v.wy v.g4 (tsF v.wy v.g3 (tsF v.wx v.g2 (tsF v.wx v.g1 [(0, 1), (1, 1)])))
def Ways.D (v : Ways) : Int := dxx v.wx * dxx v.wy
def Ways.ks (v : Ways) : List Int := tsK v.wy v.g4 (dxx v.wx) (tsK v.wy v.g3 (dxx v.wx) (tsK v.wx v.g2 (dxx v.wy) (tsK v.wx v.g1 (dxx v.wy) [0, v.D])))
def Ways.Cand (v : Ways) (n d : Int) : Prop := (n = 0 ∧ d = 1) ∨ (n = 1 ∧ d = 1) ∨ Edg v.wx v.g1 n d ∨ Edg v.wx v.g2 n d ∨ Edg v.wy v.g3 n d ∨ Edg v.wy v.g4 n d
theorem Ways.D_pos (v : Ways) : 0 < v.D := Int.mul_pos (dxx_pos _) (dxx_pos _)
theorem Ways.all (v : Ways) : All2 (2 * v.D) v.ts v.ks := by
  have hD := v.D_pos
  have a0 : All2 (2 * (dxx v.wx * dxx v.wy)) [(0, 1), (1, 1)] [0, v.D] :=
    ⟨⟨by decide, by simp, by decide, by decide⟩, ⟨by decide, by show (1 : Int) * (2 * (dxx v.wx * dxx v.wy)) = 2 * (dxx v.wx * dxx v.wy) * 1; omega, by decide, by decide⟩, trivial⟩
  have a2 := ts_ins (w := v.wx) (g := v.g2) (dxx_pos v.wy) (ts_ins (w := v.wx) (g := v.g1) (dxx_pos v.wy) a0)
  have ec : 2 * v.D = 2 * (dxx v.wy * dxx v.wx) := by unfold Ways.D; rw [Int.mul_comm (dxx v.wx)]
  rw [Int.mul_comm (dxx v.wx)] at a2
  have a4 := ts_ins (w := v.wy) (g := v.g4) (dxx_pos v.wx) (ts_ins (w := v.wy) (g := v.g3) (dxx_pos v.wx) a2)
  rw [ec]; exact a4
theorem Ways.ris (v : Ways) : Ris v.ks := ts_ris (ts_ris (ts_ris (ts_ris ⟨v.D_pos, trivial⟩)))
theorem Ways.mem {v : Ways} {n d F : Int} (hc : v.Cand n d) (e : n * (2 * v.D) = 2 * F * d) (h0 : 0 ≤ F) (h1 : F ≤ v.D) : F ∈ v.ks := by
  have ec : v.D = dxx v.wy * dxx v.wx := Int.mul_comm _ _
  rcases hc with ⟨rfl, rfl⟩ | ⟨rfl, rfl⟩ | h | h | h | h
  · exact ts_mono (ts_mono (ts_mono (ts_mono (by simp; omega))))
  · exact ts_mono (ts_mono (ts_mono (ts_mono (by simp; omega))))
  · exact ts_mono (ts_mono (ts_mono (edg_mem (dxx_pos _) h e h0 h1)))
  · exact ts_mono (ts_mono (edg_mem (dxx_pos _) h e h0 h1))
  · exact ts_mono (edg_mem (dxx_pos _) h (by rw [ec] at e; exact e) h0 (by rw [ec] at h1; exact h1))
  · exact edg_mem (dxx_pos _) h (by rw [ec] at e; exact e) h0 (by rw [ec] at h1; exact h1)
theorem Ways.ks_cons (v : Ways) : ∃ k K, v.ks = k :: K := by
  cases h : v.ks with
  | cons k K => exact ⟨k, K, rfl⟩
  | nil =>
    have : (0 : Int) ∈ v.ks := ts_mono (ts_mono (ts_mono (ts_mono (by simp))))
    rw [h] at this; cases this
theorem Cand_sc {v : Ways} {n d : Int} (hc : v.Cand n d) : 0 < d ∧ ∃ F, n * (2 * v.D) = 2 * F * d := by
  have hx : ∀ g, Edg v.wx g n d → 0 < d ∧ ∃ F, n * (2 * v.D) = 2 * F * d := fun g h => by
    obtain ⟨hw, rfl, rfl⟩ := h
    have ed : dxx v.wx = edD v.wx := by unfold dxx; rw [if_neg hw]
    refine ⟨edD_pos hw, edN v.wx g * dxx v.wy, ?_⟩
    unfold Ways.D; rw [ed]; grind
  have hy : ∀ g, Edg v.wy g n d → 0 < d ∧ ∃ F, n * (2 * v.D) = 2 * F * d := fun g h => by
    obtain ⟨hw, rfl, rfl⟩ := h
    have ed : dxx v.wy = edD v.wy := by unfold dxx; rw [if_neg hw]
    refine ⟨edD_pos hw, edN v.wy g * dxx v.wx, ?_⟩
    unfold Ways.D; rw [ed]; grind
  rcases hc with ⟨rfl, rfl⟩ | ⟨rfl, rfl⟩ | h | h | h | h
  · exact ⟨by decide, 0, by omega⟩
  · exact ⟨by decide, v.D, by omega⟩
  · exact hx _ h
  · exact hx _ h
  · exact hy _ h
  · exact hy _ h
def CS0 : CS := ⟨false, 0, 0, 0, 0, false, false⟩
theorem ref_some {v : Ways} {fn fd tn td : Int} {fo to : Bool} {P : Int → Int → Bool} (cF : v.Cand fn fd) (cT : v.Cand tn td) (hs : ∃ p q, 0 < q ∧ InS fn fd tn td fo to p q)
    (hP : ∀ p q, 0 < q → 0 ≤ p → p ≤ q → (P p q = true ↔ InS fn fd tn td fo to p q)) (h01 : ∀ p q, 0 < q → InS fn fd tn td fo to p q → 0 ≤ p ∧ p ≤ q) :
    (runF P v.ts CS0).some = true ∧ (runF P v.ts CS0).o = fo ∧ (runF P v.ts CS0).u = to ∧
    cmpI (fn * (runF P v.ts CS0).fd) ((runF P v.ts CS0).fn * fd) = 0 ∧ cmpI (tn * (runF P v.ts CS0).td) ((runF P v.ts CS0).tn * td) = 0 := by
  obtain ⟨d1, F, eF⟩ := Cand_sc cF
  obtain ⟨d2, T, eT⟩ := Cand_sc cT
  have hD := v.D_pos
  have hM : 0 < 2 * v.D := by omega
  have inn : ∀ p q B, 0 < q → p * (2 * v.D) = B * q → (InS fn fd tn td fo to p q ↔ insI F T fo to B = true) := fun p q B hq hp => by
    have c1 : fn * q < p * fd ↔ 2 * F < B := ⟨fun h => by
        rcases Int.lt_trichotomy (2 * F) B with g | g | g
        · exact g
        · have := sc_eq hM eF hp g; omega
        · have := sc_lt hM hq d1 hp eF g; omega, fun h => sc_lt hM d1 hq eF hp h⟩
    have c2 : p * fd < fn * q ↔ B < 2 * F := ⟨fun h => by
        rcases Int.lt_trichotomy B (2 * F) with g | g | g
        · exact g
        · have := sc_eq hM eF hp g.symm; omega
        · have := sc_lt hM d1 hq eF hp g; omega, fun h => sc_lt hM hq d1 hp eF h⟩
    have c3 : tn * q < p * td ↔ 2 * T < B := ⟨fun h => by
        rcases Int.lt_trichotomy (2 * T) B with g | g | g
        · exact g
        · have := sc_eq hM eT hp g; omega
        · have := sc_lt hM hq d2 hp eT g; omega, fun h => sc_lt hM d2 hq eT hp h⟩
    have c4 : p * td < tn * q ↔ B < 2 * T := ⟨fun h => by
        rcases Int.lt_trichotomy B (2 * T) with g | g | g
        · exact g
        · have := sc_eq hM eT hp g.symm; omega
        · have := sc_lt hM d2 hq eT hp g; omega, fun h => sc_lt hM hq d2 hp eT h⟩
    have c5 : fn * q ≤ p * fd ↔ 2 * F ≤ B := by omega
    have c6 : p * td ≤ tn * q ↔ B ≤ 2 * T := by omega
    unfold InS inF inT insI
    cases fo <;> cases to <;> simp [c1, c4, c5, c6]
  have hFT := sc_some hM d1 d2 eF eT hs
  have hFT' : F < T ∨ (F = T ∧ fo = false ∧ to = false) := by
    rcases hFT with h | ⟨h, h2⟩
    · exact .inl (by omega)
    · exact .inr ⟨by omega, h2⟩
  have rng : 0 ≤ F ∧ T ≤ v.D := by
    have key : ∀ B, insI F T fo to B = true → 0 ≤ B ∧ B ≤ 2 * v.D := fun B hB => h01 B (2 * v.D) hM ((inn B (2 * v.D) B hM rfl).2 hB)
    rcases hFT' with h | ⟨rfl, rfl, rfl⟩
    · have k1 := key (2 * F + 1) (by unfold insI; rw [decide_eq_true (show 2 * F < 2 * F + 1 by omega), decide_eq_true (show 2 * F ≤ 2 * F + 1 by omega), decide_eq_true (show 2 * F + 1 < 2 * T by omega), decide_eq_true (show 2 * F + 1 ≤ 2 * T by omega)]; cases fo <;> cases to <;> rfl)
      have k2 := key (2 * T - 1) (by unfold insI; rw [decide_eq_true (show 2 * F < 2 * T - 1 by omega), decide_eq_true (show 2 * F ≤ 2 * T - 1 by omega), decide_eq_true (show 2 * T - 1 < 2 * T by omega), decide_eq_true (show 2 * T - 1 ≤ 2 * T by omega)]; cases fo <;> cases to <;> rfl)
      omega
    · have k1 := key (2 * F) (by unfold insI; simp)
      omega
  have hle : F ≤ T := by omega
  have mF := Ways.mem cF eF rng.1 (by omega)
  have mT := Ways.mem cT eT (by omega) rng.2
  have hP' : ∀ p q B, 0 < q → 0 ≤ p → p ≤ q → p * (2 * v.D) = B * q → P p q = insI F T fo to B := fun p q B hq h0 h1 hp => by
    have := (hP p q hq h0 h1).trans (inn p q B hq hp)
    rw [Bool.eq_iff_iff]; exact this
  obtain ⟨k, K, hK⟩ := v.ks_cons
  have R := run_rel hP' v.ts v.ks CS0 ⟨false, 0, 0, false, false⟩ v.all ⟨rfl, rfl, rfl, (fun h => by cases h), (fun h => by cases h)⟩
  have E : runI (insI F T fo to) v.ks ⟨false, 0, 0, false, false⟩ = ⟨true, F, T, fo, to⟩ := by
    have hr := v.ris
    rw [hK] at mF mT hr ⊢
    exact run_all hFT' K k hr mF mT
  rw [E] at R
  have s1 := R.f rfl
  have s2 := R.t rfl
  refine ⟨R.some, R.o, R.u, ?_, ?_⟩
  · rw [sc_cmp hM d1 s1.d eF s1.e, cmpI_eq]
  · rw [sc_cmp hM d2 s2.d eT s2.e, cmpI_eq]
theorem ref_none {v : Ways} {P : Int → Int → Bool} (hP : ∀ p q, 0 < q → 0 ≤ p → p ≤ q → P p q = false) : (runF P v.ts CS0).some = false := by
  have R := run_rel (M := 2 * v.D) (h := fun _ => false) (fun p q _ hq h0 h1 _ => hP p q hq h0 h1) v.ts v.ks CS0 ⟨false, 0, 0, false, false⟩ v.all ⟨rfl, rfl, rfl, (fun h => by cases h), (fun h => by cases h)⟩
  rw [run_no (fun _ => rfl)] at R
  exact R.some
end Go.Proofs.Ytlcbomjdbdgbmaa

namespace Go.Proofs.Ytlcbomjdbdgbmaa
open Go.RowKit

theorem ixlt {i : Int} {n : Nat} (h : 0 ≤ i ∧ i < (n : Int)) : i.toNat < n := by omega
theorem info_rr : (Try.prog.info? 60).map (fun i => (i.zero, i.size, i.bytes)) = some (some (.agg #[.bool false, .slice none 0 0, .bool false, .slice none 0 0]), 4, 64) := by kernel_rfl
/-- where put's search stands -/
def PuI (F : RF) (n : Nat) (X Y i : Int) : Prop := 0 ≤ i ∧ i ≤ (n : Int) ∧ ∀ j : Nat, j < i.toNat → rrC (F.N j) (F.D j) X Y < 0

theorem PuI.begin (F : RF) (n : Nat) (X Y : Int) : PuI F n X Y 0 := ⟨by omega, by omega, fun j hj => by simp at hj⟩
theorem PuI.w {F : RF} {n : Nat} {X Y i : Int} (h : PuI F n X Y i) (hn : n ≤ 1000) : wrap64 (i + 1) = i + 1 := by have := h.1; have := h.2.1; exact wrap64_id (by unfold In64; omega)
theorem PuI.ix {F : RF} {n : Nat} {X Y i : Int} (h : PuI F n X Y i) (g : i < (n : Int)) : 0 ≤ i ∧ i < (n : Int) := ⟨h.1, g⟩
theorem PuI.next {F : RF} {n : Nat} {X Y i c : Int} (h : PuI F n X Y i) (g : i < (n : Int)) (e : rrC (F.N i.toNat) (F.D i.toNat) X Y = c) (hc : c < 0) : PuI F n X Y (i + 1) := by
  refine ⟨by have := h.1; omega, by omega, fun j hj => ?_⟩
  by_cases q : j = i.toNat
  · subst q; rw [e]; exact hc
  · exact h.2.2 j (by have := h.1; omega)
theorem putF_lt {x : Int × Int} : ∀ (l : List (Int × Int)) (k : Nat), k ≤ l.length → (∀ j, j < k → ∃ y, l[j]? = some y ∧ cmpI (y.1 * x.2) (x.1 * y.2) < 0) → putF x l = l.take k ++ putF x (l.drop k) := by
  intro l
  induction l with
  | nil => intro k _ _; simp
  | cons y r ih =>
    intro k hk h
    cases k with
    | zero => simp
    | succ k =>
      obtain ⟨z, hz, hc⟩ := h 0 (by omega)
      have hz' : y = z := by simpa using hz
      subst hz'
      rw [putF, if_pos hc, ih k (by simpa using hk) (fun j hj => by
        obtain ⟨z, h1, h2⟩ := h (j + 1) (by omega)
        exact ⟨z, by simpa using h1, h2⟩)]
      rfl
theorem PuI.put {F : RF} {n : Nat} {X Y i : Int} (h : PuI F n X Y i) : putF (X, Y) (F.list n) = (F.list n).take i.toNat ++ putF (X, Y) ((F.list n).drop i.toNat) :=
  putF_lt _ _ (by rw [RF.list_len]; have := h.1; have := h.2.1; omega) (fun j hj => ⟨(F.N j, F.D j), RF.list_get F (by have := h.1; have := h.2.1; omega), h.2.2 j hj⟩)
theorem rf_drop (F : RF) {n k : Nat} (h : k < n) : (F.list n).drop k = (F.N k, F.D k) :: (F.list n).drop (k + 1) := by
  have e := RF.list_get F h
  have hl : k < (F.list n).length := by rw [RF.list_len]; exact h
  rw [List.getElem?_eq_getElem hl] at e
  rw [List.drop_eq_getElem_cons hl, Option.some.inj e]
theorem PuI.eq {F : RF} {n : Nat} {X Y i c : Int} (h : PuI F n X Y i) (g : i < (n : Int)) (e : rrC (F.N i.toNat) (F.D i.toNat) X Y = c) (hc : c = 0) : F.list n = putF (X, Y) (F.list n) := by
  have hi : i.toNat < n := by have := h.1; omega
  have e' : cmpI (F.N i.toNat * Y) (X * F.D i.toNat) = 0 := by rw [← hc, ← e]; rfl
  rw [h.put, rf_drop F hi, putF, e', if_neg (by decide), if_pos rfl, ← rf_drop F hi, List.take_append_drop]
theorem PuI.ne {F : RF} {n : Nat} {X Y i : Int} (h : PuI F n X Y i) (hc : i < (n : Int) → ∃ c, rrC (F.N i.toNat) (F.D i.toNat) X Y = c ∧ ¬ c < 0 ∧ ¬ c = 0) : putF (X, Y) (F.list n) = (F.list n).take i.toNat ++ (X, Y) :: (F.list n).drop i.toNat := by
  rw [h.put]
  congr 1
  by_cases g : i < (n : Int)
  · obtain ⟨c, e, h1, h2⟩ := hc g
    have hi : i.toNat < n := by have := h.1; omega
    have e' : cmpI (F.N i.toNat * Y) (X * F.D i.toNat) = c := e
    rw [rf_drop F hi, putF, e', if_neg h1, if_neg h2]
  · have hi : (F.list n).drop i.toNat = [] := List.drop_eq_nil_of_le (by rw [RF.list_len]; have := h.1; omega)
    rw [hi]; rfl
def insN {α : Type} (f : Nat → α) (k : Nat) (x : α) : Nat → α := fun j => if j < k then f j else if j = k then x else f (j - 1)
theorem insN_lt {α : Type} (f : Nat → α) {k j : Nat} (x : α) (h : j < k) : insN f k x j = f j := if_pos h
theorem insN_eq {α : Type} (f : Nat → α) (k : Nat) (x : α) : insN f k x k = x := by unfold insN; rw [if_neg (by omega), if_pos rfl]
theorem insN_gt {α : Type} (f : Nat → α) {k j : Nat} (x : α) (h : k ≤ j) : insN f k x (j + 1) = f j := by unfold insN; rw [if_neg (by omega), if_neg (by omega)]; rfl
def RF.ins (F : RF) (k : Nat) (b : Bool) (a : Option Addr) (q c : Nat) (N : Int) (b2 : Bool) (a2 : Option Addr) (q2 c2 : Nat) (D : Int) : RF :=
  ⟨insN F.b k b, insN F.a k a, insN F.q k q, insN F.c k c, insN F.N k N, insN F.b2 k b2, insN F.a2 k a2, insN F.q2 k q2, insN F.c2 k c2, insN F.D k D⟩
section
variable {F : RF} {k : Nat} {b : Bool} {a : Option Addr} {q c : Nat} {N : Int} {b2 : Bool} {a2 : Option Addr} {q2 c2 : Nat} {D : Int}
theorem ins_cell_lt {j : Nat} (h : j < k) (m : Nat) : (F.ins k b a q c N b2 a2 q2 c2 D).cell j m = F.cell j m := by
  match m with
  | 0 => show Value.bool (insN _ _ _ _) = _; rw [insN_lt _ _ h]; rfl
  | 1 => show Value.slice (insN _ _ _ _) (insN _ _ _ _) (insN _ _ _ _) = _; rw [insN_lt _ _ h, insN_lt _ _ h, insN_lt _ _ h]; rfl
  | 2 => show Value.bool (insN _ _ _ _) = _; rw [insN_lt _ _ h]; rfl
  | _ + 3 => show Value.slice (insN _ _ _ _) (insN _ _ _ _) (insN _ _ _ _) = _; rw [insN_lt _ _ h, insN_lt _ _ h, insN_lt _ _ h]; rfl
theorem ins_cell_gt {j : Nat} (h : k ≤ j) (m : Nat) : (F.ins k b a q c N b2 a2 q2 c2 D).cell (j + 1) m = F.cell j m := by
  match m with
  | 0 => show Value.bool (insN _ _ _ _) = _; rw [insN_gt _ _ h]; rfl
  | 1 => show Value.slice (insN _ _ _ _) (insN _ _ _ _) (insN _ _ _ _) = _; rw [insN_gt _ _ h, insN_gt _ _ h, insN_gt _ _ h]; rfl
  | 2 => show Value.bool (insN _ _ _ _) = _; rw [insN_gt _ _ h]; rfl
  | _ + 3 => show Value.slice (insN _ _ _ _) (insN _ _ _ _) (insN _ _ _ _) = _; rw [insN_gt _ _ h, insN_gt _ _ h, insN_gt _ _ h]; rfl
theorem ins_row (k) : (List.range 4).map ((F.ins k b a q c N b2 a2 q2 c2 D).cell k) = [.bool b, .slice a q c, .bool b2, .slice a2 q2 c2] := by
  have e : ∀ {α : Type} (f : Nat → α) (x : α), insN f k x k = x := fun f x => insN_eq f k x
  show [Value.bool (insN _ _ _ _), Value.slice (insN _ _ _ _) (insN _ _ _ _) (insN _ _ _ _), Value.bool (insN _ _ _ _), Value.slice (insN _ _ _ _) (insN _ _ _ _) (insN _ _ _ _)] = _
  rw [e, e, e, e, e, e, e, e]
theorem flat_succ (size : Nat) (f : Nat → Nat → Value) (n : Nat) : flat size f (n + 1) = flat size f n ++ (List.range size).map (f n) := rfl
theorem ins_flat : ∀ n, k ≤ n → flat 4 (F.ins k b a q c N b2 a2 q2 c2 D).cell (n + 1) = flat 4 F.cell k ++ [.bool b, .slice a q c, .bool b2, .slice a2 q2 c2] ++ (flat 4 F.cell n).drop (k * 4) := by
  intro n
  induction n with
  | zero =>
    intro hk
    obtain rfl : k = 0 := by omega
    rw [flat_succ, ins_row]; rfl
  | succ n ih =>
    intro hk
    by_cases e : k = n + 1
    · subst e
      rw [flat_succ, ins_row]
      have h1 : (flat 4 F.cell (n + 1)).drop ((n + 1) * 4) = [] := List.drop_eq_nil_of_le (by rw [flat_len]; omega)
      rw [h1, List.append_nil]
      congr 1
      exact flat_congr fun i hi j _ => ins_cell_lt hi j
    · have em : (List.range 4).map ((F.ins k b a q c N b2 a2 q2 c2 D).cell (n + 1)) = (List.range 4).map (F.cell n) := List.map_congr_left fun j _ => ins_cell_gt (by omega) j
      rw [flat_succ, ih (by omega), flat_succ 4 F.cell n, List.drop_append_of_le_length (by rw [flat_len]; omega), em, List.append_assoc _ _ ((List.range 4).map (F.cell n))]
theorem ins_list {n : Nat} (hk : k ≤ n) : (F.ins k b a q c N b2 a2 q2 c2 D).list (n + 1) = (F.list n).take k ++ (N, D) :: (F.list n).drop k := by
  apply List.ext_getElem?
  intro j
  by_cases h1 : j < k
  · rw [RF.list_get _ (by omega), List.getElem?_append_left (by rw [List.length_take, RF.list_len]; omega), List.getElem?_take, if_pos h1, RF.list_get _ (by omega)]
    show some (insN _ _ _ _, insN _ _ _ _) = _
    rw [insN_lt _ _ h1, insN_lt _ _ h1]
  · rw [List.getElem?_append_right (by rw [List.length_take, RF.list_len]; omega), List.length_take, RF.list_len, show min k n = k by omega]
    by_cases h2 : j = k
    · subst h2
      rw [RF.list_get _ (by omega)]
      show some (insN _ _ _ _, insN _ _ _ _) = _
      rw [insN_eq, insN_eq, Nat.sub_self]; rfl
    · obtain ⟨m, rfl⟩ : ∃ m, j = m + 1 := ⟨j - 1, by omega⟩
      rw [show m + 1 - k = (m - k) + 1 by omega, List.getElem?_cons_succ, List.getElem?_drop, show k + (m - k) = m by omega]
      by_cases h3 : m < n
      · rw [RF.list_get _ (by omega), RF.list_get _ h3]
        show some (insN _ _ _ _, insN _ _ _ _) = _
        rw [insN_gt _ _ (by omega), insN_gt _ _ (by omega)]
      · rw [List.getElem?_eq_none (by rw [RF.list_len]; omega), List.getElem?_eq_none (by rw [RF.list_len]; omega)]
end
theorem rf_one (F : RF) (n : Nat) : ∀ u ∈ flat 4 F.cell n, u.oneCell' = true := by
  induction n with
  | zero => intro u hu; cases hu
  | succ n ih =>
    intro u hu
    rw [flat] at hu
    rcases List.mem_append.1 hu with h | h
    · exact ih u h
    · obtain ⟨j, hj, rfl⟩ := List.mem_map.1 h
      match j with
      | 0 => rfl
      | 1 => rfl
      | 2 => rfl
      | _ + 3 => rfl
theorem RS.at {w : World} {g cap n : Nat} {F : RF} (h : RS w g cap n F) {m : Nat} {u : Value} (hu : (flat 4 F.cell n)[m]? = some u) : w.cell? ⟨g, m, none⟩ = some u := by
  have hm : m < n * 4 := by
    rw [← flat_len 4 F.cell n]; exact (List.getElem?_eq_some_iff.1 hu).1
  have e : m = m / 4 * 4 + m % 4 := by omega
  rw [e, flat_get 4 F.cell (show m / 4 < n by omega) (show m % 4 < 4 by omega)] at hu
  rw [e, ← hu]
  exact h.row.cell (show m / 4 < n by omega) (show m % 4 < 4 by omega)
theorem flat_pre {F : RF} {n k j : Nat} (hk : k ≤ n) (hj : j < k * 4) : (flat 4 F.cell n)[j]? = (flat 4 F.cell k)[j]? := by
  have e : j = j / 4 * 4 + j % 4 := by omega
  rw [e, flat_get 4 F.cell (show j / 4 < n by omega) (show j % 4 < 4 by omega), flat_get 4 F.cell (show j / 4 < k by omega) (show j % 4 < 4 by omega)]
theorem addr0 (g j : Nat) : (⟨g, 0, none⟩ : Addr).add j = ⟨g, j, none⟩ := by
  unfold Addr.add
  split
  · rename_i h; subst h; rfl
  · simp
theorem addr1 (g o j : Nat) : (⟨g, o, none⟩ : Addr).add j = ⟨g, o + j, none⟩ := by
  unfold Addr.add
  split
  · rename_i h; subst h; rfl
  · rfl
theorem own_nil (w : World) (base : Nat) (e : TypeId) (size : Nat) : w.ownsRow base e size (.slice none 0 0) 0 [] := ⟨by simp, .inl ⟨rfl, rfl⟩⟩
end Go.Proofs.Ytlcbomjdbdgbmaa

namespace Go.Proofs.Ytlcbomjdbdgbmaa
open Go.RowKit

theorem beqN' {x y : Int} (h : (x == y) = false) : ¬ x = y := by simpa using h
set_option maxRecDepth 100000 in
set_option maxHeartbeats 4000000 in

theorem put_g (X : Int) (Y : Int)     (Lg Lc Ln : Nat) (L : RF) (nX : Bool) (aX : Option Addr) (lX cX : Nat) (nY : Bool) (aY : Option Addr) (lY cY : Nat) (w : World) (hL : RS w Lg Lc Ln L) (hX : Big w (.agg #[.bool nX, .slice aX lX cX]) X 18) (hY : Big w (.agg #[.bool nY, .slice aY lY cY]) Y 18) (_ln : Hid (Ln ≤ 1000)) :
    Calls Try.prog 129 #[.slice (some ⟨Lg, 0, none⟩) Ln Lc, .agg #[.bool nX, .slice aX lX cX, .bool nY, .slice aY lY cY]] w fun e w' => ∃ (g cap n : Nat) (F : RF), e = .returned (.slice (some ⟨g, 0, none⟩) n cap) ∧ RS w' g cap n F ∧ F.list n = putF (X, Y) (L.list Ln) ∧ Below w.heap.size w w' := by

  have HL := Lib.hid hL
  clear hL
  have HX := Lib.hid hX
  clear hX
  have HY := Lib.hid hY
  clear hY
  have H0L := HL
  have H0X := HX
  have H0Y := HY
  go_enter Try.func129, Try.ntmps129
  go_wp2_with fail
  first | refine name_world ?_
  intro V1 hV1
  have hn : Below w.heap.size w V1 := by rw [hV1]; exact below_a1 _ _
  replace HL := Lib.hid (HL.out.of hn)
  replace HX := Lib.hid (HX.out.of hn)
  replace HY := Lib.hid (HY.out.of hn)
  have nhb0 := hn
  have k1 : Blk V1 w.heap.size #[.bool nX, .slice aX lX cX, .bool nY, .slice aY lY cY] 60 := by rw [hV1]; exact (Blk.new _ _ _)
  clear hV1
  have hb0 := nhb0
  clear nhb0
  go_loopg [5] Ln (fun gk_ s1_0 wr => ∃ (i : Int), s1_0 = .int .i64 i ∧ Hid (PuI L Ln X Y i ∧ Ln - i.toNat ≤ (gk_ : Nat)) ∧ Blk wr w.heap.size #[.bool nX, .slice aX lX cX, .bool nY, .slice aY lY cY] 60 ∧ RS wr Lg Lc Ln L ∧ Big wr (.agg #[.bool nX, .slice aX lX cX]) X 18 ∧ Big wr (.agg #[.bool nY, .slice aY lY cY]) Y 18 ∧ Below w.heap.size w wr)
  case atStart =>
    have HIn : PuI L Ln X Y 0 ∧ Ln - (0 : Int).toNat ≤ (Ln : Nat) := by
      exact ⟨PuI.begin L Ln X Y, by omega⟩
    exact ⟨0, rfl, Lib.hid HIn, k1, HL.out, HX.out, HY.out, hb0⟩
  case round =>
    rename World => W1_
    rename Nat => gk1
    clear k1 HL HX HY
    clear hb0
    obtain ⟨i, rfl, HI1, k1, HL_, HX_, HY_, hb0⟩ := hrel
    have HL := Lib.hid HL_
    clear HL_
    have HX := Lib.hid HX_
    clear HX_
    have HY := Lib.hid HY_
    clear HY_
    go_wp2_with fail
    obtain ⟨z1, hz1⟩ : ∃ o_o : Bool, decide (i < (Ln : Int)) = o_o := ⟨_, rfl⟩
    cases z1
    · have Kk1 := Lib.hid k1
      clear k1
      refine wp_region_up W1_.heap.size 10 [(true, 0), (true, 1), (false, 2), (true, 3), (true, 4), (true, 5), (true, 6), (true, 7), (true, 8), (true, 9)] (by kernel_rfl) (by kernel_rfl) (fun _ _ d _ _ h => by cases d <;> exact h) ?_
      have hb : Below W1_.heap.size W1_ W1_.drew := (Below.refl _ _).drew
      iterate 2
        refine wpS_takeL rfl rfl ?_
        go_big_quiet_step (rfl)
        refine wpQuiet_nil ?_
      refine wpS_doL rfl ?_
      intro K hK
      go_wp2_with (fail)
      try replace hb := hb.trans (hn.mono hb.size)
      refine hK.out _ _ (up_iff.2 hb) ?_
      clear hK K
      try clear hn
      iterate 7
        refine wpS_takeL rfl rfl ?_
        go_big_quiet_step (rfl)
        refine wpQuiet_nil ?_
      refine wpS_nil ?_
      simp only [List.drop_succ_cons, List.drop_zero]
      first | refine calls_w ?_ | refine name_world ?_ | refine list_world ?_ | refine post_world ?_
      intro U2 hU2
      first | (subst hU2; have u_ := U2; clear u_) | (rw [← hU2] at hb; clear hU2)
      have k1 := Kk1.out.of hb
      clear Kk1
      replace HL := Lib.hid (HL.out.of hb)
      replace HX := Lib.hid (HX.out.of hb)
      replace HY := Lib.hid (HY.out.of hb)
      replace hb0 := hb0.trans (hb.mono hb0.size)
      clear hb
      go_wp2_with fail
      have Kk1 := Lib.hid k1
      clear k1
      refine wp_region_up U2.heap.size 10 [(true, 0), (true, 1), (false, 2), (true, 3), (true, 4), (true, 5), (true, 6), (true, 7), (true, 8), (true, 9)] (by kernel_rfl) (by kernel_rfl) (fun _ _ d _ _ h => by cases d <;> exact h) ?_
      have hb : Below U2.heap.size U2 U2.drew := (Below.refl _ _).drew
      iterate 2
        refine wpS_takeL rfl rfl ?_
        go_big_quiet_step (rfl)
        refine wpQuiet_nil ?_
      refine wpS_doL rfl ?_
      intro K hK
      go_wp2_with (fail)
      try replace hb := hb.trans (hn.mono hb.size)
      refine hK.out _ _ (up_iff.2 hb) ?_
      clear hK K
      try clear hn
      iterate 7
        refine wpS_takeL rfl rfl ?_
        go_big_quiet_step (rfl)
        refine wpQuiet_nil ?_
      refine wpS_nil ?_
      simp only [List.drop_succ_cons, List.drop_zero]
      first | refine calls_w ?_ | refine name_world ?_ | refine list_world ?_ | refine post_world ?_
      intro U3 hU3
      first | (subst hU3; have u_ := U3; clear u_) | (rw [← hU3] at hb; clear hU3)
      have k1 := Kk1.out.of hb
      clear Kk1
      replace HL := Lib.hid (HL.out.of hb)
      replace HX := Lib.hid (HX.out.of hb)
      replace HY := Lib.hid (HY.out.of hb)
      replace hb0 := hb0.trans (hb.mono hb0.size)
      clear hb
      have rs0 : 0 = 0 := rfl
      clear rs0
      have hne : putF (X, Y) (L.list Ln) = (L.list Ln).take i.toNat ++ (X, Y) :: (L.list Ln).drop i.toNat := HI1.out.1.ne (fun g_ => by first | (exact ⟨_, rfl, rfl, rfl⟩) | (exact absurd g_ (of_decide_eq_false hz1)))
      have hi0 := HI1.out.1.1
      have hi1 := HI1.out.1.2.1
      have HNE := Lib.hid hne
      have HII := Lib.hid (And.intro hi0 hi1)
      clear hne hi0 hi1
      obtain ⟨i0, hi, hz0, hz1, hz2⟩ := info_parts info_rr
      have rs0 := HII.out.1
      have rs1 : i ≤ (Lc : Int) := by have b_ := H0L.out.row.le; have := HII.out; omega
      go_wp2_with (at_builtin; refine wpList_append_own _ rfl _ _ 127 rfl w.heap.size 60 i0 (.agg #[.bool false, .slice none 0 0, .bool false, .slice none 0 0]) 4 64 Try.underlying127 hi hz0 hz1 hz2 rfl (by decide) _ 0 [] rfl (own_nil _ _ _ _) ⟨Lg, 0, none⟩ i.toNat Lc (flat 4 L.cell i.toNat) rfl (flat_len _ _ _) ?c1_1_1 ?c2_1_1 ?c3_1_1 ?c4_1_1 ?c5_1_1 ?_)
      case c1_1_1 =>
        intro j u hu
        have hj : j < i.toNat * 4 := by rw [← flat_len 4 L.cell i.toNat]; exact (List.getElem?_eq_some_iff.1 hu).1
        rw [addr0]
        exact RS.at (H0L.out.of hb0) (by rw [flat_pre (k := i.toNat) (by have := HII.out; omega) hj]; exact hu)
      case c2_1_1 => exact rf_one L _
      case c3_1_1 => unfold maxLen; have := HII.out; have := _ln.out; omega
      case c4_1_1 => have := HII.out; have := _ln.out; omega
      case c5_1_1 => exact hb0.size
      intro v1 w1 own1 gr1 _
      have hb1 : Below w.heap.size w w1 := hb0.grown gr1 hb0.size (fun k hk => by cases hk)
      have kt : Blk w1 (w.heap.size) #[.bool nX, .slice aX lX cX, .bool nY, .slice aY lY cY] 60 := (gr1.block _ k1.lt (by simp [Value.ownBlock])).trans k1
      try simp only [Nat.zero_add, List.nil_append] at own1
      clear rs0 rs1
      have c0 := kt.cell 0
      have c1 := kt.cell 1
      have c2 := kt.cell 2
      have c3 := kt.cell 3
      have lt := kt.lt
      simp only [List.getElem?_toArray, List.getElem?_cons_zero, List.getElem?_cons_succ] at c0 c1 c2 c3
      have O1 := Lib.hid own1
      clear own1 gr1 kt k1
      go_wp2_with (at_builtin; refine wpList_append_own _ rfl _ _ 127 rfl w.heap.size 60 i0 (.agg #[.bool false, .slice none 0 0, .bool false, .slice none 0 0]) 4 64 Try.underlying127 hi hz0 hz1 hz2 rfl (by decide) _ i.toNat (flat 4 L.cell i.toNat) rfl (O1.out.alloc _) ⟨w1.heap.size, 0, none⟩ 1 1 [.bool nX, .slice aX lX cX, .bool nY, .slice aY lY cY] rfl rfl ?c1_1_2 ?c2_1_2 ?c3_1_2 ?c4_1_2 ?c5_1_2 ?_)
      case c1_1_2 =>
        intro j u hj
        match j, hj with
        | 0, hj => simp at hj; subst hj; simp [Addr.add]
        | 1, hj => simp at hj; subst hj; simp [Addr.add]
        | 2, hj => simp at hj; subst hj; simp [Addr.add]
        | 3, hj => simp at hj; subst hj; simp [Addr.add]
      case c2_1_2 => intro u hu; simp at hu; rcases hu with rfl | rfl | rfl | rfl <;> rfl
      case c3_1_2 => unfold maxLen; have := HII.out; have := _ln.out; omega
      case c4_1_2 => have := HII.out; have := _ln.out; omega
      case c5_1_2 => have := hb1.size; simp; omega
      intro v2 w2 own2 gr2 _
      have hb2 : Below w.heap.size w w2 := (hb1.alloc hb1.size _).grown gr2 (by have := hb1.size; simp; omega) (fun k hk => (O1.out.lt k hk).1)
      clear c0 c1 c2 c3 lt
      have O2 := Lib.hid own2
      have rs0 := HII.out.1
      have rs1 := HII.out.2
      have hle := H0L.out.row.le
      obtain ⟨ad, hs2, had⟩ : ∃ ad : Addr, (if Lc = i.toNat then (some ⟨Lg, 0, none⟩ : Option Addr) else some ⟨Lg, i.toNat * 4, none⟩) = some ad ∧ (i.toNat < Ln → ad = ⟨Lg, i.toNat * 4, none⟩) := ⟨if Lc = i.toNat then ⟨Lg, 0, none⟩ else ⟨Lg, i.toNat * 4, none⟩, by split <;> rfl, fun h => if_neg (by omega)⟩
      have HAD := Lib.hid had
      clear had hle
      clear own2 gr2 O1
      go_wp2_with (at_builtin; refine wpList_append_own _ rfl _ _ 127 rfl w.heap.size 60 i0 (.agg #[.bool false, .slice none 0 0, .bool false, .slice none 0 0]) 4 64 Try.underlying127 hi hz0 hz1 hz2 rfl (by decide) v2 (i.toNat + 1) (flat 4 L.cell i.toNat ++ [.bool nX, .slice aX lX cX, .bool nY, .slice aY lY cY]) rfl O2.out ad (Ln - i.toNat) (Lc - i.toNat) ((flat 4 L.cell Ln).drop (i.toNat * 4)) rfl ?c0_1_3 ?c1_1_3 ?c2_1_3 ?c3_1_3 ?c4_1_3 ?c5_1_3 ?_)
      case c0_1_3 => rw [List.length_drop, flat_len]; omega
      case c1_1_3 =>
        intro j u hu
        rw [List.getElem?_drop] at hu
        have hj : i.toNat * 4 + j < Ln * 4 := by rw [← flat_len 4 L.cell Ln]; exact (List.getElem?_eq_some_iff.1 hu).1
        rw [HAD.out (by omega), addr1]
        exact RS.at (H0L.out.of hb2) hu
      case c2_1_3 => exact fun u hu => rf_one L Ln u (List.mem_of_mem_drop hu)
      case c3_1_3 => unfold maxLen; have := HII.out; have := _ln.out; omega
      case c4_1_3 => have := HII.out; have := _ln.out; omega
      case c5_1_3 => exact hb2.size
      intro v3 w3 own3 gr3 _
      have hb3 : Below w.heap.size w w3 := hb2.grown gr3 hb2.size (fun k hk => (O2.out.lt k hk).1)
      have en : i.toNat + 1 + (Ln - i.toNat) = Ln + 1 := by have := HII.out; omega
      rw [en] at own3
      have O3 := Lib.hid (show w3.ownsRow w.heap.size 60 4 v3 (Ln + 1) (flat 4 (L.ins i.toNat nX aX lX cX X nY aY lY cY Y).cell (Ln + 1)) from by
        rw [ins_flat Ln (by have := HII.out; omega)]
        simpa only [List.append_assoc, List.cons_append, List.nil_append] using own3)
      clear hs2 rs0 rs1
      clear own3 gr3 O2
      obtain ⟨g3, cap3, rfl, hg3, hr3⟩ := Row.ofOwns O3.out (by omega)
      go_wp2
      go_ret
      refine ⟨g3, cap3, Ln + 1, _, rfl, ⟨hr3, fun j hj => ?_, fun j hj => ?_⟩, ?_, hb3⟩
      · show Big w3 (.agg #[.bool (insN _ _ _ _), .slice (insN _ _ _ _) (insN _ _ _ _) (insN _ _ _ _)]) (insN _ _ _ _) 18
        rcases Nat.lt_trichotomy j i.toNat with q | q | q
        · rw [insN_lt _ _ q, insN_lt _ _ q, insN_lt _ _ q, insN_lt _ _ q, insN_lt _ _ q]; exact (H0L.out.num j (by have := HII.out; omega)).of hb3
        · subst q; rw [insN_eq, insN_eq, insN_eq, insN_eq, insN_eq]; exact H0X.out.of hb3
        · obtain ⟨m, rfl⟩ : ∃ m, j = m + 1 := ⟨j - 1, by omega⟩
          rw [insN_gt _ _ (by omega), insN_gt _ _ (by omega), insN_gt _ _ (by omega), insN_gt _ _ (by omega), insN_gt _ _ (by omega)]; exact (H0L.out.num m (by omega)).of hb3
      · show Big w3 (.agg #[.bool (insN _ _ _ _), .slice (insN _ _ _ _) (insN _ _ _ _) (insN _ _ _ _)]) (insN _ _ _ _) 18
        rcases Nat.lt_trichotomy j i.toNat with q | q | q
        · rw [insN_lt _ _ q, insN_lt _ _ q, insN_lt _ _ q, insN_lt _ _ q, insN_lt _ _ q]; exact (H0L.out.den j (by have := HII.out; omega)).of hb3
        · subst q; rw [insN_eq, insN_eq, insN_eq, insN_eq, insN_eq]; exact H0Y.out.of hb3
        · obtain ⟨m, rfl⟩ : ∃ m, j = m + 1 := ⟨j - 1, by omega⟩
          rw [insN_gt _ _ (by omega), insN_gt _ _ (by omega), insN_gt _ _ (by omega), insN_gt _ _ (by omega), insN_gt _ _ (by omega)]; exact (H0L.out.den m (by omega)).of hb3
      · rw [HNE.out]; exact ins_list (by have := HII.out; omega)
    · have c1_0 : W1_.cell? ⟨w.heap.size, 0, none⟩ = some (.bool nX) := k1.cell 0
      have c1_1 : W1_.cell? ⟨w.heap.size, 1, none⟩ = some (.slice aX lX cX) := k1.cell 1
      have c1_2 : W1_.cell? ⟨w.heap.size, 2, none⟩ = some (.bool nY) := k1.cell 2
      have c1_3 : W1_.cell? ⟨w.heap.size, 3, none⟩ = some (.slice aY lY cY) := k1.cell 3
      have l1 := k1.lt
      have ea0 : (0 : Int) ≤ i := ((HI1.out.1.ix (of_decide_eq_true hz1))).1
      have eb0 : (i : Int) < (Ln : Int) := ((HI1.out.1.ix (of_decide_eq_true hz1))).2
      have el0 := RS.lt HL.out
      have ec0_0 : W1_.cell? ⟨Lg, i.toNat * 4, none⟩ = some (.bool (L.b (i.toNat))) := RS.c0 HL.out (ixlt (HI1.out.1.ix (of_decide_eq_true hz1)))
      have ec0_1 : W1_.cell? ⟨Lg, i.toNat * 4 + 1, none⟩ = some (.slice (L.a (i.toNat)) (L.q (i.toNat)) (L.c (i.toNat))) := RS.c1 HL.out (ixlt (HI1.out.1.ix (of_decide_eq_true hz1)))
      have ec0_2 : W1_.cell? ⟨Lg, i.toNat * 4 + 2, none⟩ = some (.bool (L.b2 (i.toNat))) := RS.c2 HL.out (ixlt (HI1.out.1.ix (of_decide_eq_true hz1)))
      have ec0_3 : W1_.cell? ⟨Lg, i.toNat * 4 + 3, none⟩ = some (.slice (L.a2 (i.toNat)) (L.q2 (i.toNat)) (L.c2 (i.toNat))) := RS.c3 HL.out (ixlt (HI1.out.1.ix (of_decide_eq_true hz1)))
      have Kk1 := Lib.hid k1
      clear k1
      refine wp_region_up W1_.heap.size 10 [(true, 0), (true, 1), (false, 2), (true, 3), (true, 4), (true, 5), (true, 6), (true, 7), (true, 8), (true, 9)] (by kernel_rfl) (by kernel_rfl) (fun _ _ d _ _ h => by cases d <;> exact h) ?_
      have hb : Below W1_.heap.size W1_ W1_.drew := (Below.refl _ _).drew
      iterate 2
        refine wpS_takeL rfl rfl ?_
        go_big_quiet_step (rfl)
        refine wpQuiet_nil ?_
      refine wpS_doL rfl ?_
      intro K hK
      go_wp2_with (fail)
      try replace hb := hb.trans (hn.mono hb.size)
      refine hK.out _ _ (up_iff.2 hb) ?_
      clear hK K
      try clear hn
      iterate 7
        refine wpS_takeL rfl rfl ?_
        go_big_quiet_step (rfl)
        refine wpQuiet_nil ?_
      refine wpS_nil ?_
      simp only [List.drop_succ_cons, List.drop_zero]
      first | refine calls_w ?_ | refine name_world ?_ | refine list_world ?_ | refine post_world ?_
      intro U4 hU4
      first | (subst hU4; have u_ := U4; clear u_) | (rw [← hU4] at hb; clear hU4)
      clear c1_0 c1_1 c1_2 c1_3 l1 ea0 eb0 el0 ec0_0 ec0_1 ec0_2 ec0_3
      have k1 := Kk1.out.of hb
      clear Kk1
      replace HL := Lib.hid (HL.out.of hb)
      replace HX := Lib.hid (HX.out.of hb)
      replace HY := Lib.hid (HY.out.of hb)
      replace hb0 := hb0.trans (hb.mono hb0.size)
      clear hb
      go_wp2_with fail
      obtain ⟨r2, hr2⟩ : ∃ o_o : Int, rrC (L.N (i.toNat)) (L.D (i.toNat)) X Y = o_o := ⟨_, rfl⟩
      have Hr2 := Lib.hid hr2
      clear hr2
      refine (rrC_is (L.N (i.toNat)) (L.D (i.toNat)) X Y r2 Hr2.out  (L.b (i.toNat)) (L.a (i.toNat)) (L.q (i.toNat)) (L.c (i.toNat)) (L.b2 (i.toNat)) (L.a2 (i.toNat)) (L.q2 (i.toNat)) (L.c2 (i.toNat)) nX aX lX cX nY aY lY cY _ (RS.num HL.out _ (ixlt (HI1.out.1.ix (of_decide_eq_true hz1)))) (RS.den HL.out _ (ixlt (HI1.out.1.ix (of_decide_eq_true hz1)))) HX.out HY.out).mono ?_
      rintro e U5 ⟨rfl, hn⟩
      replace k1 := k1.of hn
      replace HL := Lib.hid (HL.out.of hn)
      replace HX := Lib.hid (HX.out.of hn)
      replace HY := Lib.hid (HY.out.of hn)
      replace hb0 := hb0.trans (hn.mono hb0.size)
      clear hn
      obtain ⟨z3, hz3⟩ : ∃ o_o : Bool, decide (r2 < 0) = o_o := ⟨_, rfl⟩
      cases z3
      · go_wp2_with fail
        have c1_0 : U5.cell? ⟨w.heap.size, 0, none⟩ = some (.bool nX) := k1.cell 0
        have c1_1 : U5.cell? ⟨w.heap.size, 1, none⟩ = some (.slice aX lX cX) := k1.cell 1
        have c1_2 : U5.cell? ⟨w.heap.size, 2, none⟩ = some (.bool nY) := k1.cell 2
        have c1_3 : U5.cell? ⟨w.heap.size, 3, none⟩ = some (.slice aY lY cY) := k1.cell 3
        have l1 := k1.lt
        have ea0 : (0 : Int) ≤ i := ((HI1.out.1.ix (of_decide_eq_true hz1))).1
        have eb0 : (i : Int) < (Ln : Int) := ((HI1.out.1.ix (of_decide_eq_true hz1))).2
        have el0 := RS.lt HL.out
        have ec0_0 : U5.cell? ⟨Lg, i.toNat * 4, none⟩ = some (.bool (L.b (i.toNat))) := RS.c0 HL.out (ixlt (HI1.out.1.ix (of_decide_eq_true hz1)))
        have ec0_1 : U5.cell? ⟨Lg, i.toNat * 4 + 1, none⟩ = some (.slice (L.a (i.toNat)) (L.q (i.toNat)) (L.c (i.toNat))) := RS.c1 HL.out (ixlt (HI1.out.1.ix (of_decide_eq_true hz1)))
        have ec0_2 : U5.cell? ⟨Lg, i.toNat * 4 + 2, none⟩ = some (.bool (L.b2 (i.toNat))) := RS.c2 HL.out (ixlt (HI1.out.1.ix (of_decide_eq_true hz1)))
        have ec0_3 : U5.cell? ⟨Lg, i.toNat * 4 + 3, none⟩ = some (.slice (L.a2 (i.toNat)) (L.q2 (i.toNat)) (L.c2 (i.toNat))) := RS.c3 HL.out (ixlt (HI1.out.1.ix (of_decide_eq_true hz1)))
        have Kk1 := Lib.hid k1
        clear k1
        refine wp_region_up U5.heap.size 10 [(true, 0), (true, 1), (false, 2), (true, 3), (true, 4), (true, 5), (true, 6), (true, 7), (true, 8), (true, 9)] (by kernel_rfl) (by kernel_rfl) (fun _ _ d _ _ h => by cases d <;> exact h) ?_
        have hb : Below U5.heap.size U5 U5.drew := (Below.refl _ _).drew
        iterate 2
          refine wpS_takeL rfl rfl ?_
          go_big_quiet_step (rfl)
          refine wpQuiet_nil ?_
        refine wpS_doL rfl ?_
        intro K hK
        go_wp2_with (fail)
        try replace hb := hb.trans (hn.mono hb.size)
        refine hK.out _ _ (up_iff.2 hb) ?_
        clear hK K
        try clear hn
        iterate 7
          refine wpS_takeL rfl rfl ?_
          go_big_quiet_step (rfl)
          refine wpQuiet_nil ?_
        refine wpS_nil ?_
        simp only [List.drop_succ_cons, List.drop_zero]
        first | refine calls_w ?_ | refine name_world ?_ | refine list_world ?_ | refine post_world ?_
        intro U6 hU6
        first | (subst hU6; have u_ := U6; clear u_) | (rw [← hU6] at hb; clear hU6)
        clear c1_0 c1_1 c1_2 c1_3 l1 ea0 eb0 el0 ec0_0 ec0_1 ec0_2 ec0_3
        have k1 := Kk1.out.of hb
        clear Kk1
        replace HL := Lib.hid (HL.out.of hb)
        replace HX := Lib.hid (HX.out.of hb)
        replace HY := Lib.hid (HY.out.of hb)
        replace hb0 := hb0.trans (hb.mono hb0.size)
        clear hb
        go_wp2_with fail
        refine (rrC_is (L.N (i.toNat)) (L.D (i.toNat)) X Y r2 Hr2.out  (L.b (i.toNat)) (L.a (i.toNat)) (L.q (i.toNat)) (L.c (i.toNat)) (L.b2 (i.toNat)) (L.a2 (i.toNat)) (L.q2 (i.toNat)) (L.c2 (i.toNat)) nX aX lX cX nY aY lY cY _ (RS.num HL.out _ (ixlt (HI1.out.1.ix (of_decide_eq_true hz1)))) (RS.den HL.out _ (ixlt (HI1.out.1.ix (of_decide_eq_true hz1)))) HX.out HY.out).mono ?_
        rintro e U7 ⟨rfl, hn⟩
        replace k1 := k1.of hn
        replace HL := Lib.hid (HL.out.of hn)
        replace HX := Lib.hid (HX.out.of hn)
        replace HY := Lib.hid (HY.out.of hn)
        replace hb0 := hb0.trans (hn.mono hb0.size)
        clear hn
        obtain ⟨z4, hz4⟩ : ∃ o_o : Bool, (r2 == 0) = o_o := ⟨_, rfl⟩
        cases z4
        · have nz4 : ¬ r2 = 0 := by simpa using hz4
          have rs0 : 0 = 0 := rfl
          clear rs0
          have hne : putF (X, Y) (L.list Ln) = (L.list Ln).take i.toNat ++ (X, Y) :: (L.list Ln).drop i.toNat := HI1.out.1.ne (fun g_ => by first | (exact ⟨_, Hr2.out, of_decide_eq_false hz3, beqN' hz4⟩) | (exact absurd g_ (by assumption)))
          have hi0 := HI1.out.1.1
          have hi1 := HI1.out.1.2.1
          have HNE := Lib.hid hne
          have HII := Lib.hid (And.intro hi0 hi1)
          clear hne hi0 hi1
          obtain ⟨i0, hi, hz0, hz1, hz2⟩ := info_parts info_rr
          have rs0 := HII.out.1
          have rs1 : i ≤ (Lc : Int) := by have b_ := H0L.out.row.le; have := HII.out; omega
          go_wp2_with (at_builtin; refine wpList_append_own _ rfl _ _ 127 rfl w.heap.size 60 i0 (.agg #[.bool false, .slice none 0 0, .bool false, .slice none 0 0]) 4 64 Try.underlying127 hi hz0 hz1 hz2 rfl (by decide) _ 0 [] rfl (own_nil _ _ _ _) ⟨Lg, 0, none⟩ i.toNat Lc (flat 4 L.cell i.toNat) rfl (flat_len _ _ _) ?c1_2_1 ?c2_2_1 ?c3_2_1 ?c4_2_1 ?c5_2_1 ?_)
          case c1_2_1 =>
            intro j u hu
            have hj : j < i.toNat * 4 := by rw [← flat_len 4 L.cell i.toNat]; exact (List.getElem?_eq_some_iff.1 hu).1
            rw [addr0]
            exact RS.at (H0L.out.of hb0) (by rw [flat_pre (k := i.toNat) (by have := HII.out; omega) hj]; exact hu)
          case c2_2_1 => exact rf_one L _
          case c3_2_1 => unfold maxLen; have := HII.out; have := _ln.out; omega
          case c4_2_1 => have := HII.out; have := _ln.out; omega
          case c5_2_1 => exact hb0.size
          intro v1 w1 own1 gr1 _
          have hb1 : Below w.heap.size w w1 := hb0.grown gr1 hb0.size (fun k hk => by cases hk)
          have kt : Blk w1 (w.heap.size) #[.bool nX, .slice aX lX cX, .bool nY, .slice aY lY cY] 60 := (gr1.block _ k1.lt (by simp [Value.ownBlock])).trans k1
          try simp only [Nat.zero_add, List.nil_append] at own1
          clear rs0 rs1
          have c0 := kt.cell 0
          have c1 := kt.cell 1
          have c2 := kt.cell 2
          have c3 := kt.cell 3
          have lt := kt.lt
          simp only [List.getElem?_toArray, List.getElem?_cons_zero, List.getElem?_cons_succ] at c0 c1 c2 c3
          have O1 := Lib.hid own1
          clear own1 gr1 kt k1
          go_wp2_with (at_builtin; refine wpList_append_own _ rfl _ _ 127 rfl w.heap.size 60 i0 (.agg #[.bool false, .slice none 0 0, .bool false, .slice none 0 0]) 4 64 Try.underlying127 hi hz0 hz1 hz2 rfl (by decide) _ i.toNat (flat 4 L.cell i.toNat) rfl (O1.out.alloc _) ⟨w1.heap.size, 0, none⟩ 1 1 [.bool nX, .slice aX lX cX, .bool nY, .slice aY lY cY] rfl rfl ?c1_2_2 ?c2_2_2 ?c3_2_2 ?c4_2_2 ?c5_2_2 ?_)
          case c1_2_2 =>
            intro j u hj
            match j, hj with
            | 0, hj => simp at hj; subst hj; simp [Addr.add]
            | 1, hj => simp at hj; subst hj; simp [Addr.add]
            | 2, hj => simp at hj; subst hj; simp [Addr.add]
            | 3, hj => simp at hj; subst hj; simp [Addr.add]
          case c2_2_2 => intro u hu; simp at hu; rcases hu with rfl | rfl | rfl | rfl <;> rfl
          case c3_2_2 => unfold maxLen; have := HII.out; have := _ln.out; omega
          case c4_2_2 => have := HII.out; have := _ln.out; omega
          case c5_2_2 => have := hb1.size; simp; omega
          intro v2 w2 own2 gr2 _
          have hb2 : Below w.heap.size w w2 := (hb1.alloc hb1.size _).grown gr2 (by have := hb1.size; simp; omega) (fun k hk => (O1.out.lt k hk).1)
          clear c0 c1 c2 c3 lt
          have O2 := Lib.hid own2
          have rs0 := HII.out.1
          have rs1 := HII.out.2
          have hle := H0L.out.row.le
          obtain ⟨ad, hs2, had⟩ : ∃ ad : Addr, (if Lc = i.toNat then (some ⟨Lg, 0, none⟩ : Option Addr) else some ⟨Lg, i.toNat * 4, none⟩) = some ad ∧ (i.toNat < Ln → ad = ⟨Lg, i.toNat * 4, none⟩) := ⟨if Lc = i.toNat then ⟨Lg, 0, none⟩ else ⟨Lg, i.toNat * 4, none⟩, by split <;> rfl, fun h => if_neg (by omega)⟩
          have HAD := Lib.hid had
          clear had hle
          clear own2 gr2 O1
          go_wp2_with (at_builtin; refine wpList_append_own _ rfl _ _ 127 rfl w.heap.size 60 i0 (.agg #[.bool false, .slice none 0 0, .bool false, .slice none 0 0]) 4 64 Try.underlying127 hi hz0 hz1 hz2 rfl (by decide) v2 (i.toNat + 1) (flat 4 L.cell i.toNat ++ [.bool nX, .slice aX lX cX, .bool nY, .slice aY lY cY]) rfl O2.out ad (Ln - i.toNat) (Lc - i.toNat) ((flat 4 L.cell Ln).drop (i.toNat * 4)) rfl ?c0_2_3 ?c1_2_3 ?c2_2_3 ?c3_2_3 ?c4_2_3 ?c5_2_3 ?_)
          case c0_2_3 => rw [List.length_drop, flat_len]; omega
          case c1_2_3 =>
            intro j u hu
            rw [List.getElem?_drop] at hu
            have hj : i.toNat * 4 + j < Ln * 4 := by rw [← flat_len 4 L.cell Ln]; exact (List.getElem?_eq_some_iff.1 hu).1
            rw [HAD.out (by omega), addr1]
            exact RS.at (H0L.out.of hb2) hu
          case c2_2_3 => exact fun u hu => rf_one L Ln u (List.mem_of_mem_drop hu)
          case c3_2_3 => unfold maxLen; have := HII.out; have := _ln.out; omega
          case c4_2_3 => have := HII.out; have := _ln.out; omega
          case c5_2_3 => exact hb2.size
          intro v3 w3 own3 gr3 _
          have hb3 : Below w.heap.size w w3 := hb2.grown gr3 hb2.size (fun k hk => (O2.out.lt k hk).1)
          have en : i.toNat + 1 + (Ln - i.toNat) = Ln + 1 := by have := HII.out; omega
          rw [en] at own3
          have O3 := Lib.hid (show w3.ownsRow w.heap.size 60 4 v3 (Ln + 1) (flat 4 (L.ins i.toNat nX aX lX cX X nY aY lY cY Y).cell (Ln + 1)) from by
            rw [ins_flat Ln (by have := HII.out; omega)]
            simpa only [List.append_assoc, List.cons_append, List.nil_append] using own3)
          clear hs2 rs0 rs1
          clear own3 gr3 O2
          obtain ⟨g3, cap3, rfl, hg3, hr3⟩ := Row.ofOwns O3.out (by omega)
          go_wp2
          go_ret
          refine ⟨g3, cap3, Ln + 1, _, rfl, ⟨hr3, fun j hj => ?_, fun j hj => ?_⟩, ?_, hb3⟩
          · show Big w3 (.agg #[.bool (insN _ _ _ _), .slice (insN _ _ _ _) (insN _ _ _ _) (insN _ _ _ _)]) (insN _ _ _ _) 18
            rcases Nat.lt_trichotomy j i.toNat with q | q | q
            · rw [insN_lt _ _ q, insN_lt _ _ q, insN_lt _ _ q, insN_lt _ _ q, insN_lt _ _ q]; exact (H0L.out.num j (by have := HII.out; omega)).of hb3
            · subst q; rw [insN_eq, insN_eq, insN_eq, insN_eq, insN_eq]; exact H0X.out.of hb3
            · obtain ⟨m, rfl⟩ : ∃ m, j = m + 1 := ⟨j - 1, by omega⟩
              rw [insN_gt _ _ (by omega), insN_gt _ _ (by omega), insN_gt _ _ (by omega), insN_gt _ _ (by omega), insN_gt _ _ (by omega)]; exact (H0L.out.num m (by omega)).of hb3
          · show Big w3 (.agg #[.bool (insN _ _ _ _), .slice (insN _ _ _ _) (insN _ _ _ _) (insN _ _ _ _)]) (insN _ _ _ _) 18
            rcases Nat.lt_trichotomy j i.toNat with q | q | q
            · rw [insN_lt _ _ q, insN_lt _ _ q, insN_lt _ _ q, insN_lt _ _ q, insN_lt _ _ q]; exact (H0L.out.den j (by have := HII.out; omega)).of hb3
            · subst q; rw [insN_eq, insN_eq, insN_eq, insN_eq, insN_eq]; exact H0Y.out.of hb3
            · obtain ⟨m, rfl⟩ : ∃ m, j = m + 1 := ⟨j - 1, by omega⟩
              rw [insN_gt _ _ (by omega), insN_gt _ _ (by omega), insN_gt _ _ (by omega), insN_gt _ _ (by omega), insN_gt _ _ (by omega)]; exact (H0L.out.den m (by omega)).of hb3
          · rw [HNE.out]; exact ins_list (by have := HII.out; omega)
        · obtain rfl : r2 = 0 := by simpa using hz4
          clear hz4
          go_wp2
          first | go_ret | go_ret2
          exact ⟨Lg, Lc, Ln, L, rfl, HL.out, HI1.out.1.eq (of_decide_eq_true hz1) Hr2.out rfl, hb0⟩
      · go_wp2_with fail
        have HIn : PuI L Ln X Y (wrap64 (i + 1)) ∧ Ln - (wrap64 (i + 1)).toNat ≤ ((Ln - ((wrap64 (i + 1))).toNat) : Nat) := by
          rw [HI1.out.1.w _ln.out]
          exact ⟨HI1.out.1.next (of_decide_eq_true hz1) Hr2.out (of_decide_eq_true hz3), by omega⟩
        go_roundg (Ln - ((wrap64 (i + 1))).toNat)
        case measure =>
          rw [HI1.out.1.w _ln.out]
          have q_ := (of_decide_eq_true hz1)
          have q2_ := HI1.out.2
          have q3_ := HI1.out.1.1
          omega
        case rel => exact ⟨(wrap64 (i + 1)), rfl, Lib.hid HIn, k1, HL.out, HX.out, HY.out, hb0⟩
end Go.Proofs.Ytlcbomjdbdgbmaa

namespace Go.Proofs.Ytlcbomjdbdgbmaa
open Go.RowKit

/-- a row of two fractions -/
def rf2 (b0 : Bool) (a0 : Option Addr) (q0 c0 : Nat) (N0 : Int) (b1 : Bool) (a1 : Option Addr) (q1 c1 : Nat) (D0 : Int) (b2 : Bool) (a2 : Option Addr) (q2 c2 : Nat) (N1 : Int) (b3 : Bool) (a3 : Option Addr) (q3 c3 : Nat) (D1 : Int) : RF :=
  ⟨fun j => bif j == 0 then b0 else b2, fun j => bif j == 0 then a0 else a2, fun j => bif j == 0 then q0 else q2, fun j => bif j == 0 then c0 else c2, fun j => bif j == 0 then N0 else N1,
   fun j => bif j == 0 then b1 else b3, fun j => bif j == 0 then a1 else a3, fun j => bif j == 0 then q1 else q3, fun j => bif j == 0 then c1 else c3, fun j => bif j == 0 then D0 else D1⟩
theorem rs_two {w : World} {g : Nat} {b0 : Bool} {a0 : Option Addr} {q0 c0 : Nat} {N0 : Int} {b1 : Bool} {a1 : Option Addr} {q1 c1 : Nat} {D0 : Int} {b2 : Bool} {a2 : Option Addr} {q2 c2 : Nat} {N1 : Int} {b3 : Bool} {a3 : Option Addr} {q3 c3 : Nat} {D1 : Int}
    (k : Blk w g #[.bool b0, .slice a0 q0 c0, .bool b1, .slice a1 q1 c1, .bool b2, .slice a2 q2 c2, .bool b3, .slice a3 q3 c3] 60)
    (h0 : Big w (.agg #[.bool b0, .slice a0 q0 c0]) N0 18) (h1 : Big w (.agg #[.bool b1, .slice a1 q1 c1]) D0 18) (h2 : Big w (.agg #[.bool b2, .slice a2 q2 c2]) N1 18) (h3 : Big w (.agg #[.bool b3, .slice a3 q3 c3]) D1 18) :
    RS w g 2 2 (rf2 b0 a0 q0 c0 N0 b1 a1 q1 c1 D0 b2 a2 q2 c2 N1 b3 a3 q3 c3 D1) := by
  refine ⟨⟨_, k, by decide, by unfold maxLen; decide, rfl, fun i hi j hj => ?_⟩, fun i hi => ?_, fun i hi => ?_⟩
  · match i, hi, j, hj with
    | 0, _, 0, _ => rfl
    | 0, _, 1, _ => rfl
    | 0, _, 2, _ => rfl
    | 0, _, 3, _ => rfl
    | 1, _, 0, _ => rfl
    | 1, _, 1, _ => rfl
    | 1, _, 2, _ => rfl
    | 1, _, 3, _ => rfl
  · match i, hi with
    | 0, _ => exact h0
    | 1, _ => exact h2
  · match i, hi with
    | 0, _ => exact h1
    | 1, _ => exact h3
theorem put_len {x : Int × Int} : ∀ l : List (Int × Int), (putF x l).length ≤ l.length + 1 := by
  intro l
  induction l with
  | nil => exact Nat.le_refl _
  | cons y r ih =>
    unfold putF
    split
    · simpa using ih
    · split <;> simp
theorem put_more {X Y : Int} {F L : RF} {n m : Nat} (h : F.list n = putF (X, Y) (L.list m)) : n ≤ m + 1 := by
  have e := congrArg List.length h
  rw [RF.list_len] at e
  have := put_len (x := (X, Y)) (L.list m)
  rw [RF.list_len] at this
  omega
/-- one edge's line, as Ts counts -/
def gN (w g : Int) : Int := if w < 0 then -g else g
def tsG (w g : Int) (l : List (Int × Int)) : List (Int × Int) := if w = 0 then l else if 0 ≤ gN w g ∧ gN w g ≤ gN w (wrap64 (2 * w)) then putF (gN w g, gN w (wrap64 (2 * w))) l else l
theorem gN_neg {w g v N : Int} (hw : decide (w < 0) = true) (e : g = v) (e2 : -v = N) : gN w g = N := by unfold gN; rw [if_pos (of_decide_eq_true hw), e, e2]
theorem gN_pos {w g N : Int} (hw : decide (w < 0) = false) (e : g = N) : gN w g = N := by unfold gN; rw [if_neg (of_decide_eq_false hw), e]
theorem tsG_zero {w g : Int} {l : List (Int × Int)} (h : (w == 0) = true) : tsG w g l = l := by unfold tsG; rw [if_pos (by simpa using h)]
theorem tsG_lo {w g N c : Int} {l : List (Int × Int)} (hw : (w == 0) = false) (e : gN w g = N) (hs : N.sign = c) (hc : decide (0 ≤ c) = false) : tsG w g l = l := by
  have h1 := of_decide_eq_false hc
  have : ¬ (0 ≤ N) := fun h => h1 (by rw [← hs]; exact Int.sign_nonneg_iff.2 h)
  unfold tsG; rw [if_neg (by simpa using hw), e, if_neg (fun h => this h.1)]
theorem tsG_hi {w g N D c : Int} {l : List (Int × Int)} (hw : (w == 0) = false) (e : gN w g = N) (e2 : gN w (wrap64 (2 * w)) = D) (hs : cmpI N D = c) (hc : decide (c ≤ 0) = false) : tsG w g l = l := by
  have h1 := of_decide_eq_false hc
  have : ¬ (N ≤ D) := fun h => h1 (by rw [← hs]; unfold cmpI; split; omega; split <;> omega)
  unfold tsG; rw [if_neg (by simpa using hw), e, e2, if_neg (fun h => this h.2)]
theorem tsG_in {w g N D c c2 : Int} {l : List (Int × Int)} (hw : (w == 0) = false) (e : gN w g = N) (e2 : gN w (wrap64 (2 * w)) = D) (hs : N.sign = c) (hc : decide (0 ≤ c) = true) (hs2 : cmpI N D = c2) (hc2 : decide (c2 ≤ 0) = true) : tsG w g l = putF (N, D) l := by
  have h1 : 0 ≤ N := Int.sign_nonneg_iff.1 (by rw [hs]; exact of_decide_eq_true hc)
  have h2 : N ≤ D := by
    have := of_decide_eq_true hc2
    rw [← hs2] at this
    unfold cmpI at this
    split at this
    · omega
    · split at this <;> omega
  unfold tsG; rw [if_neg (by simpa using hw), e, e2, if_pos ⟨h1, h2⟩]

/-- what Ts has found so far -/
def Tq0 : List (Int × Int) := [(0, 1), (1, 1)]
def Tq1 (ax ay bx b_y cx cy n : Int) : List (Int × Int) := tsG (wrap64 (bx - ax)) (wrap64 ((wrap64 ((wrap64 ((wrap64 (2 * cx)) * n)) - n)) - (wrap64 (2 * ax)))) Tq0
def Tq2 (ax ay bx b_y cx cy n : Int) : List (Int × Int) := tsG (wrap64 (bx - ax)) (wrap64 ((wrap64 ((wrap64 ((wrap64 (2 * cx)) * n)) + n)) - (wrap64 (2 * ax)))) (Tq1 ax ay bx b_y cx cy n)
def Tq3 (ax ay bx b_y cx cy n : Int) : List (Int × Int) := tsG (wrap64 (b_y - ay)) (wrap64 ((wrap64 ((wrap64 ((wrap64 (2 * cy)) * n)) - n)) - (wrap64 (2 * ay)))) (Tq2 ax ay bx b_y cx cy n)
def Tq4 (ax ay bx b_y cx cy n : Int) : List (Int × Int) := tsG (wrap64 (b_y - ay)) (wrap64 ((wrap64 ((wrap64 ((wrap64 (2 * cy)) * n)) + n)) - (wrap64 (2 * ay)))) (Tq3 ax ay bx b_y cx cy n)
def TsI (ax ay bx b_y cx cy n i : Int) (m : Nat) (F : RF) : Prop := (i = 0 ∧ F.list m = Tq0 ∧ m ≤ 2) ∨ (i = 1 ∧ F.list m = Tq1 ax ay bx b_y cx cy n ∧ m ≤ 3) ∨ (i = 2 ∧ F.list m = Tq2 ax ay bx b_y cx cy n ∧ m ≤ 4) ∨ (i = 3 ∧ F.list m = Tq3 ax ay bx b_y cx cy n ∧ m ≤ 5) ∨ (i = 4 ∧ F.list m = Tq4 ax ay bx b_y cx cy n ∧ m ≤ 6)
theorem TsI.same0 {ax ay bx b_y cx cy n : Int} {m : Nat} {F : RF} (h : F.list m = Tq0 ∧ m ≤ 2) (s : tsG (wrap64 (bx - ax)) (wrap64 ((wrap64 ((wrap64 ((wrap64 (2 * cx)) * n)) - n)) - (wrap64 (2 * ax)))) (Tq0) = Tq0) : TsI ax ay bx b_y cx cy n 1 m F := by
  have h2 : F.list m = Tq0 := h.1
  have hm : m ≤ 3 := by have := h.2; omega
  have s := s.symm
  exact Or.inr (Or.inl ⟨rfl, h2.trans s, hm⟩)
theorem TsI.put0 {ax ay bx b_y cx cy n X Y : Int} {m p : Nat} {F L : RF} (h : F.list m = Tq0 ∧ m ≤ 2) (g : L.list p = putF (X, Y) (F.list m)) (s : tsG (wrap64 (bx - ax)) (wrap64 ((wrap64 ((wrap64 ((wrap64 (2 * cx)) * n)) - n)) - (wrap64 (2 * ax)))) (Tq0) = putF (X, Y) (Tq0)) : TsI ax ay bx b_y cx cy n 1 p L := by
  have h2 : L.list p = putF (X, Y) (Tq0) := by rw [g, h.1]
  have hm : p ≤ 3 := by have := h.2; have := put_more g; omega
  have s := s.symm
  exact Or.inr (Or.inl ⟨rfl, h2.trans s, hm⟩)
theorem TsI.same1 {ax ay bx b_y cx cy n : Int} {m : Nat} {F : RF} (h : F.list m = Tq1 ax ay bx b_y cx cy n ∧ m ≤ 3) (s : tsG (wrap64 (bx - ax)) (wrap64 ((wrap64 ((wrap64 ((wrap64 (2 * cx)) * n)) + n)) - (wrap64 (2 * ax)))) (Tq1 ax ay bx b_y cx cy n) = Tq1 ax ay bx b_y cx cy n) : TsI ax ay bx b_y cx cy n 2 m F := by
  have h2 : F.list m = Tq1 ax ay bx b_y cx cy n := h.1
  have hm : m ≤ 4 := by have := h.2; omega
  have s := s.symm
  exact Or.inr (Or.inr (Or.inl ⟨rfl, h2.trans s, hm⟩))
theorem TsI.put1 {ax ay bx b_y cx cy n X Y : Int} {m p : Nat} {F L : RF} (h : F.list m = Tq1 ax ay bx b_y cx cy n ∧ m ≤ 3) (g : L.list p = putF (X, Y) (F.list m)) (s : tsG (wrap64 (bx - ax)) (wrap64 ((wrap64 ((wrap64 ((wrap64 (2 * cx)) * n)) + n)) - (wrap64 (2 * ax)))) (Tq1 ax ay bx b_y cx cy n) = putF (X, Y) (Tq1 ax ay bx b_y cx cy n)) : TsI ax ay bx b_y cx cy n 2 p L := by
  have h2 : L.list p = putF (X, Y) (Tq1 ax ay bx b_y cx cy n) := by rw [g, h.1]
  have hm : p ≤ 4 := by have := h.2; have := put_more g; omega
  have s := s.symm
  exact Or.inr (Or.inr (Or.inl ⟨rfl, h2.trans s, hm⟩))
theorem TsI.same2 {ax ay bx b_y cx cy n : Int} {m : Nat} {F : RF} (h : F.list m = Tq2 ax ay bx b_y cx cy n ∧ m ≤ 4) (s : tsG (wrap64 (b_y - ay)) (wrap64 ((wrap64 ((wrap64 ((wrap64 (2 * cy)) * n)) - n)) - (wrap64 (2 * ay)))) (Tq2 ax ay bx b_y cx cy n) = Tq2 ax ay bx b_y cx cy n) : TsI ax ay bx b_y cx cy n 3 m F := by
  have h2 : F.list m = Tq2 ax ay bx b_y cx cy n := h.1
  have hm : m ≤ 5 := by have := h.2; omega
  have s := s.symm
  exact Or.inr (Or.inr (Or.inr (Or.inl ⟨rfl, h2.trans s, hm⟩)))
theorem TsI.put2 {ax ay bx b_y cx cy n X Y : Int} {m p : Nat} {F L : RF} (h : F.list m = Tq2 ax ay bx b_y cx cy n ∧ m ≤ 4) (g : L.list p = putF (X, Y) (F.list m)) (s : tsG (wrap64 (b_y - ay)) (wrap64 ((wrap64 ((wrap64 ((wrap64 (2 * cy)) * n)) - n)) - (wrap64 (2 * ay)))) (Tq2 ax ay bx b_y cx cy n) = putF (X, Y) (Tq2 ax ay bx b_y cx cy n)) : TsI ax ay bx b_y cx cy n 3 p L := by
  have h2 : L.list p = putF (X, Y) (Tq2 ax ay bx b_y cx cy n) := by rw [g, h.1]
  have hm : p ≤ 5 := by have := h.2; have := put_more g; omega
  have s := s.symm
  exact Or.inr (Or.inr (Or.inr (Or.inl ⟨rfl, h2.trans s, hm⟩)))
theorem TsI.same3 {ax ay bx b_y cx cy n : Int} {m : Nat} {F : RF} (h : F.list m = Tq3 ax ay bx b_y cx cy n ∧ m ≤ 5) (s : tsG (wrap64 (b_y - ay)) (wrap64 ((wrap64 ((wrap64 ((wrap64 (2 * cy)) * n)) + n)) - (wrap64 (2 * ay)))) (Tq3 ax ay bx b_y cx cy n) = Tq3 ax ay bx b_y cx cy n) : TsI ax ay bx b_y cx cy n 4 m F := by
  have h2 : F.list m = Tq3 ax ay bx b_y cx cy n := h.1
  have hm : m ≤ 6 := by have := h.2; omega
  have s := s.symm
  exact Or.inr (Or.inr (Or.inr (Or.inr (⟨rfl, h2.trans s, hm⟩))))
theorem TsI.put3 {ax ay bx b_y cx cy n X Y : Int} {m p : Nat} {F L : RF} (h : F.list m = Tq3 ax ay bx b_y cx cy n ∧ m ≤ 5) (g : L.list p = putF (X, Y) (F.list m)) (s : tsG (wrap64 (b_y - ay)) (wrap64 ((wrap64 ((wrap64 ((wrap64 (2 * cy)) * n)) + n)) - (wrap64 (2 * ay)))) (Tq3 ax ay bx b_y cx cy n) = putF (X, Y) (Tq3 ax ay bx b_y cx cy n)) : TsI ax ay bx b_y cx cy n 4 p L := by
  have h2 : L.list p = putF (X, Y) (Tq3 ax ay bx b_y cx cy n) := by rw [g, h.1]
  have hm : p ≤ 6 := by have := h.2; have := put_more g; omega
  have s := s.symm
  exact Or.inr (Or.inr (Or.inr (Or.inr (⟨rfl, h2.trans s, hm⟩))))
end Go.Proofs.Ytlcbomjdbdgbmaa

