/- My texts SwA, SwB, SwC, Cr4, joined: what the last one needs of them. Conditions: as each lemma says. -/
import Derived.Test.YtkaolhlmimalkaaSEa3
import Derived.KernelRfl
import Derived.StillTail
import Derived.OrdersHeld
import Derived.Deep.Quiet
import Derived.Below
import Derived.WalkKit
import Derived.Test.YtkaolhlmimalkaaProg
import Derived.WalkSpells
import Derived.StillTactics
import Derived.Laws.Pointers
import Derived.Deep.RegionHeld3
import Derived.RowKit3
import Derived.Deep.QuietTactic
import Derived.BigQuiet
import Derived.BigRegion
import Derived.Lib.Hide
import Derived.WalkSmall
import Derived.Laws.BitsAllLaws
import Derived.IntWalk
import Derived.Deep.OwnRows
import Derived.Deep.LoopGhost
import Derived.Shelf.Bits.Mul64
import Derived.Deep.DeepFit
import Derived.Deep.DeepCutAuto
import Derived.OwnWalk
import Derived.RangeFuncNested
import Derived.RangeFuncBound
import Derived.RangeFuncCalls
import Derived.RangeFuncLeaves
import Derived.Shelf.Abstract
import Derived.Shelf.RegionOpen
import Derived.OwnWalkIn
import Derived.TacticsInMore
import Derived.LoopNIn
import Derived.LoopIn
import Derived.Sort.LoopGhostIn
import Derived.Deep.DeepAppendRoom
import Derived.Deep.MidRow
import Derived.Laws.CopyOwn
import Derived.Laws.AppendOwn
import Derived.Lib.AppendZerosOnto
import Derived.Lib.Overlaps
import Derived.Laws.AppendOwnNone
import Derived.Maps.OwnIn
import Derived.ProofKit
import Derived.OpenShut
import Derived.ShutString
import Derived.ChangeOld
import Derived.Lib.SmallJoins
import Derived.Laws.IdiomArrays
import Derived.Deep.SlicePairs
namespace Go.Proofs.Ytkaolhlmimalkaa
open Go.RowKit

/-- a spot's code, by its numbers -/
def cd (X Y W : Int) : Int := (X % b256 * b256 + Y % b256) * b256 + W % b256
theorem cmpn_cd (X Y W : Int) : cmpn (cd X Y W) 0 = X % b256 ∧ cmpn (cd X Y W) 1 = Y % b256 ∧ cmpn (cd X Y W) 2 = W % b256 := by
  have h0 : (0 : Int) < b256 := by decide
  have hx := Int.emod_nonneg X (show b256 ≠ 0 by decide)
  have hx' := Int.emod_lt_of_pos X h0
  have hy := Int.emod_nonneg Y (show b256 ≠ 0 by decide)
  have hy' := Int.emod_lt_of_pos Y h0
  have hw := Int.emod_nonneg W (show b256 ≠ 0 by decide)
  have hw' := Int.emod_lt_of_pos W h0
  unfold cmpn cd
  generalize X % b256 = x at *
  generalize Y % b256 = y at *
  generalize W % b256 = v at *
  have d1 : ((x * b256 + y) * b256 + v) / b256 = x * b256 + y := by
    rw [Int.add_comm, Int.add_mul_ediv_right _ _ (by decide), Int.ediv_eq_zero_of_lt hw hw', Int.zero_add]
  have d2 : (x * b256 + y) / b256 = x := by
    rw [Int.add_comm, Int.add_mul_ediv_right _ _ (by decide), Int.ediv_eq_zero_of_lt hy hy', Int.zero_add]
  refine ⟨?_, ?_, ?_⟩
  · show _ / b256 / b256 % b256 = x
    rw [d1, d2, Int.emod_eq_of_lt hx hx']
  · show _ / b256 % b256 = y
    rw [d1, Int.add_comm, Int.add_mul_emod_self_right, Int.emod_eq_of_lt hy hy']
  · show _ % b256 = v
    rw [Int.add_comm, Int.add_mul_emod_self_right, Int.emod_eq_of_lt hw hw']
theorem sg_mod (x : Int) : sg (x % b256) = sg x := by unfold sg b255 b256; omega
/-- twelve words -/
abbrev spV (X Y W : Int) : Value := .agg #[.int .u64 (wd0 X), .int .u64 (wd1 X), .int .u64 (wd2 X), .int .u64 (wd3 X), .int .u64 (wd0 Y), .int .u64 (wd1 Y), .int .u64 (wd2 Y), .int .u64 (wd3 Y), .int .u64 (wd0 W), .int .u64 (wd1 W), .int .u64 (wd2 W), .int .u64 (wd3 W)]
theorem pK_cm (x : Int) : pK x = spV (cmX x) (cmY x) (cmW x) := by
  unfold pK spV cmX cmY cmW
  rw [wd0_sg, wd1_sg, wd2_sg, wd3_sg, wd0_sg, wd1_sg, wd2_sg, wd3_sg, wd0_sg, wd1_sg, wd2_sg, wd3_sg]
  rfl
theorem cm_cd {X Y W : Int} (hX : InI X) (hY : InI Y) (hW : InI W) : cmX (cd X Y W) = X ∧ cmY (cd X Y W) = Y ∧ cmW (cd X Y W) = W := by
  obtain ⟨a, b, c⟩ := cmpn_cd X Y W
  unfold cmX cmY cmW
  rw [a, b, c, sg_mod, sg_mod, sg_mod]
  exact ⟨sg_id hX, sg_id hY, sg_id hW⟩
theorem pK_cd {X Y W : Int} (hX : InI X) (hY : InI Y) (hW : InI W) : pK (cd X Y W) = spV X Y W := by
  obtain ⟨a, b, c⟩ := cm_cd hX hY hW
  rw [pK_cm, a, b, c]
theorem cm_in (x : Int) : InI (cmX x) ∧ InI (cmY x) ∧ InI (cmW x) := ⟨sg_bd _, sg_bd _, sg_bd _⟩
theorem fl_lt {X W X2 W2 K : Int} (hW : 0 < W) (hW2 : 0 < W2) (hK : W * W2 ≤ K) (h : X * W2 < X2 * W) : X * K / W < X2 * K / W2 := by
  rcases Int.lt_or_le (X * K / W) (X2 * K / W2) with h1 | h1
  · exact h1
  · exfalso
    have a1 : X * K / W * W ≤ X * K := Int.ediv_mul_le _ (by omega)
    have a2 : X2 * K < (X2 * K / W2 + 1) * W2 := Int.lt_ediv_add_one_mul_self _ hW2
    have a3 : (X2 * K / W2 + 1) * W2 ≤ (X * K / W + 1) * W2 := Int.mul_le_mul_of_nonneg_right (by omega) (by omega)
    have a4 : X2 * K * W < (X * K / W + 1) * W2 * W := Int.mul_lt_mul_of_pos_right (by omega) hW
    have a5 : X * K / W * W * W2 ≤ X * K * W2 := Int.mul_le_mul_of_nonneg_right a1 (by omega)
    generalize X * K / W = a at a4 a5
    have e1 : (a + 1) * W2 * W = a * W * W2 + W * W2 := by grind
    have a6 : K * (X2 * W - X * W2) < W * W2 := by
      have : K * (X2 * W - X * W2) = X2 * K * W - X * K * W2 := by grind
      omega
    have hKp : 0 < K := by
      have := Int.mul_pos hW hW2
      omega
    have a7 : K * 1 ≤ K * (X2 * W - X * W2) := Int.mul_le_mul_of_nonneg_left (by omega) (by omega)
    omega
theorem fl_eq {X W X2 W2 K : Int} (hW : 0 < W) (hW2 : 0 < W2) (h : X * W2 = X2 * W) : X * K / W = X2 * K / W2 := by
  have key : ∀ {A V B U : Int}, 0 < V → 0 < U → A * U = B * V → A * K / V ≤ B * K / U := by
    intro A V B U hV hU e
    rw [Int.le_ediv_iff_mul_le hU]
    have a1 : A * K / V * V ≤ A * K := Int.ediv_mul_le _ (by omega)
    have a2 : A * K / V * V * U ≤ A * K * U := Int.mul_le_mul_of_nonneg_right a1 (by omega)
    generalize A * K / V = a at a2 ⊢
    have e2 : A * K * U = B * K * V := by
      have : A * K * U = A * U * K := by grind
      rw [this, e]; grind
    have e3 : a * V * U = a * U * V := by grind
    rw [e2, e3] at a2
    exact Int.le_of_mul_le_mul_right a2 hV
  have b1 := key hW hW2 h; have b2 := key hW2 hW h.symm
  omega
def kK : Int := 2 ^ 180
def kM : Int := 2 ^ 223
/-- the place of a spot among all, as one number -/
def kyC (x y v : Int) : Int := x * kK / v * kM + y * kK / v
theorem fl_bd {y v : Int} (hv : 0 < v) (h1 : -(v * 2199023255552) ≤ y) (h2 : y ≤ v * 2199023255552) : -2 ^ 221 ≤ y * kK / v ∧ y * kK / v ≤ 2 ^ 221 := by
  constructor
  · rw [Int.le_ediv_iff_mul_le hv]
    have : -(v * 2199023255552) * kK ≤ y * kK := Int.mul_le_mul_of_nonneg_right h1 (by decide)
    have e : -(v * 2199023255552) * kK = -2 ^ 221 * v := by unfold kK; grind
    omega
  · have : y * kK ≤ v * 2199023255552 * kK := Int.mul_le_mul_of_nonneg_right h2 (by decide)
    have e : v * 2199023255552 * kK = 2 ^ 221 * v := by unfold kK; grind
    rw [e] at this
    have h3 := Int.ediv_le_ediv hv this
    rwa [Int.mul_ediv_cancel _ (by omega)] at h3
theorem ky_cmp {x y v x2 y2 v2 : Int} (h : SpOk x y v) (h2 : SpOk x2 y2 v2) :
    (kyC x y v < kyC x2 y2 v2 ↔ x * v2 < x2 * v ∨ x * v2 = x2 * v ∧ y * v2 < y2 * v) ∧ (kyC x y v = kyC x2 y2 v2 ↔ x * v2 = x2 * v ∧ y * v2 = y2 * v) := by
 have hK : v * v2 ≤ kK := by
  have a := Int.mul_le_mul h.v1 h2.v1 (Int.le_of_lt h2.v0) (by decide)
  have e : (1237940039285380274899124224 : Int) * 1237940039285380274899124224 = kK := by decide
  omega
 have hK' : v2 * v ≤ kK := by rw [Int.mul_comm]; exact hK
 have b1 := fl_bd h.v0 h.y0 h.y1; have b2 := fl_bd h2.v0 h2.y0 h2.y1
 unfold kyC
 have lx := fun e => fl_lt (X := x) (X2 := x2) h.v0 h2.v0 hK e
 have gx := fun e => fl_lt (X := x2) (X2 := x) h2.v0 h.v0 hK' e
 have ex := fun e => fl_eq (K := kK) (X := x) (X2 := x2) h.v0 h2.v0 e
 have ly := fun e => fl_lt (X := y) (X2 := y2) h.v0 h2.v0 hK e
 have gy := fun e => fl_lt (X := y2) (X2 := y) h2.v0 h.v0 hK' e
 have ey := fun e => fl_eq (K := kK) (X := y) (X2 := y2) h.v0 h2.v0 e
 have tx : x * v2 < x2 * v ∨ x * v2 = x2 * v ∨ x2 * v < x * v2 := by omega
 have ty : y * v2 < y2 * v ∨ y * v2 = y2 * v ∨ y2 * v < y * v2 := by omega
 generalize x * kK / v = a at *
 generalize x2 * kK / v2 = a2 at *
 generalize y * kK / v = b at *
 generalize y2 * kK / v2 = b2' at *
 have hM : kM = 4 * 2 ^ 221 := by decide
 generalize hP : (2 : Int) ^ 221 = P at *
 have hP0 : 0 < P := by rw [← hP]; decide
 rw [hM]
 have mul : a < a2 → a * (4 * P) + 4 * P ≤ a2 * (4 * P) := fun e => by
  have := Int.mul_le_mul_of_nonneg_right (show a + 1 ≤ a2 by omega) (show (0 : Int) ≤ 4 * P by omega)
  rw [Int.add_mul] at this; omega
 have mul2 : a2 < a → a2 * (4 * P) + 4 * P ≤ a * (4 * P) := fun e => by
  have := Int.mul_le_mul_of_nonneg_right (show a2 + 1 ≤ a by omega) (show (0 : Int) ≤ 4 * P by omega)
  rw [Int.add_mul] at this; omega
 rcases tx with tx | tx | tx
 ·have := mul (lx tx)
  constructor
  ·constructor
   ·intro _; exact .inl tx
   ·intro _; omega
  ·constructor
   ·intro _; omega
   ·intro q; omega
 ·have e := ex tx
  subst e
  rcases ty with ty | ty | ty
  ·have := ly ty
   constructor
   ·constructor
    ·intro _; exact .inr ⟨tx, ty⟩
    ·intro _; omega
   ·constructor
    ·intro _; omega
    ·intro q; omega
  ·have := ey ty
   constructor
   ·constructor
    ·intro _; omega
    ·intro q; omega
   ·constructor
    ·intro _; exact ⟨tx, ty⟩
    ·intro _; omega
  ·have := gy ty
   constructor
   ·constructor
    ·intro _; omega
    ·intro q; omega
   ·constructor
    ·intro _; omega
    ·intro q; omega
 ·have := mul2 (gx tx)
  constructor
  ·constructor
   ·intro _; omega
   ·intro q; omega
  ·constructor
   ·intro _; omega
   ·intro q; omega
/-- how two spots stand, by their codes -/
def ccmp (a b : Int) : Int := spC (cmX a) (cmY a) (cmW a) (cmX b) (cmY b) (cmW b)
/-- a spot's place -/
def ky (a : Int) : Int := kyC (cmX a) (cmY a) (cmW a)
theorem run_SpCmp : ∀ args w, (callFunc 9 args).run Try.prog w = .ok (.enter 9 args) w := fun args w => by go_simp
theorem CCmp_is (a b : Int) (r : Int) (hr : ccmp a b = r) (w : World) : Calls Try.prog 9 #[pK a, pK b] w fun e w' => e = .returned (.int .i64 r) ∧ Below w.heap.size w w' := by
  rw [pK_cm a, pK_cm b]
  obtain ⟨a1, a2, a3⟩ := cm_in a
  obtain ⟨b1, b2, b3⟩ := cm_in b
  exact SpCmp_is _ _ _ _ _ _ r hr a1 a2 a3 b1 b2 b3 w
def ordC : Value := .func (.func 9) #[] #[]
theorem ordC_ok : OrdOk ordC ccmp := ⟨_, rfl, run_SpCmp, fun a b w _ _ => CCmp_is a b _ rfl w⟩
theorem sp_most {v : Int} (h0 : 0 < v) (h1 : v ≤ 1237940039285380274899124224) : mulv v 2199023255552 = v * 2199023255552 ∧ subv 0 (v * 2199023255552) = -(v * 2199023255552) := by
  refine ⟨?_, ?_⟩
  · rw [mulv_id (by unfold InI b255; omega)]
  · rw [subv_id (by unfold InI b255; omega)]; omega
theorem most90 : mulv 35184372088832 35184372088832 = 1237940039285380274899124224 := by decide
theorem cmp_pos {a b : Int} : 0 < cmpI a b ↔ b < a := by unfold cmpI; split <;> (try split) <;> omega
theorem cmp_neg {a b : Int} : cmpI a b < 0 ↔ a < b := by unfold cmpI; split <;> (try split) <;> omega
theorem spR_iff {x y v : Int} : spR x y v = true ↔ SpOk x y v := by
  unfold spR
  rw [most90]
  by_cases h0 : v.sign ≤ 0
  · rw [decide_eq_true h0]
    refine ⟨fun h => by simp at h, fun h => ?_⟩
    have := h.v0
    rw [Int.sign_eq_one_of_pos this] at h0; omega
  · have hv : 0 < v := by
      rcases Int.lt_or_le 0 v with h | h
      · exact h
      · exfalso; apply h0
        rcases Int.lt_or_eq_of_le h with h | h
        · rw [Int.sign_eq_neg_one_of_neg h]; decide
        · rw [h]; decide
    rw [decide_eq_false h0, cond_false]
    by_cases h1 : 0 < cmpI v 1237940039285380274899124224
    · rw [decide_eq_true h1]
      refine ⟨fun h => by simp at h, fun h => ?_⟩
      have := h.v1; have := cmp_pos.1 h1; omega
    · have hv1 : v ≤ 1237940039285380274899124224 := by
        rcases Int.lt_or_le 1237940039285380274899124224 v with h | h
        · exact absurd (cmp_pos.2 h) h1
        · exact h
      obtain ⟨e1, e2⟩ := sp_most hv hv1
      rw [decide_eq_false h1, cond_false, e1, e2]
      have g : ∀ a b : Int, (0 ≤ cmpI a b) ↔ b ≤ a := fun a b => by unfold cmpI; split <;> (try split) <;> omega
      have l : ∀ a b : Int, (cmpI a b ≤ 0) ↔ a ≤ b := fun a b => by unfold cmpI; split <;> (try split) <;> omega
      constructor
      · intro h
        by_cases c1 : 0 ≤ cmpI x (-(v * 2199023255552))
        · by_cases c2 : cmpI x (v * 2199023255552) ≤ 0
          · by_cases c3 : 0 ≤ cmpI y (-(v * 2199023255552))
            · by_cases c4 : cmpI y (v * 2199023255552) ≤ 0
              · exact ⟨hv, hv1, (g _ _).1 c1, (l _ _).1 c2, (g _ _).1 c3, (l _ _).1 c4⟩
              · rw [decide_eq_true c1, decide_eq_true c2, decide_eq_true c3, decide_eq_false c4] at h; simp at h
            · rw [decide_eq_true c1, decide_eq_true c2, decide_eq_false c3] at h; simp at h
          · rw [decide_eq_true c1, decide_eq_false c2] at h; simp at h
        · rw [decide_eq_false c1] at h; simp at h
      · intro h
        rw [decide_eq_true ((g _ _).2 h.x0), decide_eq_true ((l _ _).2 h.x1), decide_eq_true ((g _ _).2 h.y0), decide_eq_true ((l _ _).2 h.y1)]; rfl
theorem mulv_xv {x y v u : Int} (h : SpOk x y v) (hu : 0 < u) (hu1 : u ≤ 1237940039285380274899124224) : mulv x u = x * u ∧ mulv y u = y * u := by
  have h1 := h.v1; have h2 := h.x0; have h3 := h.x1; have h4 := h.y0; have h5 := h.y1
  constructor
  · exact mulv_id (by have := mul_bd (by decide) (show -2722258935367507707706996859454145691648 ≤ x ∧ x ≤ 2722258935367507707706996859454145691648 by omega) (show -1237940039285380274899124224 ≤ u ∧ u ≤ 1237940039285380274899124224 by omega); unfold InI b255; omega)
  · exact mulv_id (by have := mul_bd (by decide) (show -2722258935367507707706996859454145691648 ≤ y ∧ y ≤ 2722258935367507707706996859454145691648 by omega) (show -1237940039285380274899124224 ≤ u ∧ u ≤ 1237940039285380274899124224 by omega); unfold InI b255; omega)
theorem ordK_ky : OrdK ccmp ky := by
  intro a b ha hb
  obtain ⟨k1, k2⟩ := ky_cmp ha hb
  obtain ⟨k3, _⟩ := ky_cmp hb ha
  have e : ccmp a b = or2 (cmpI (cmX a * cmW b) (cmX b * cmW a)) (cmpI (cmY a * cmW b) (cmY b * cmW a)) := by
    unfold ccmp spC
    rw [spR_iff.2 ha, spR_iff.2 hb, cond_true, cond_true, (mulv_xv ha hb.v0 hb.v1).1, (mulv_xv ha hb.v0 hb.v1).2, (mulv_xv hb ha.v0 ha.v1).1, (mulv_xv hb ha.v0 ha.v1).2]
  unfold ky
  rw [e, k1, k3]
  generalize cmX a * cmW b = x1
  generalize cmX b * cmW a = x2
  generalize cmY a * cmW b = y1
  generalize cmY b * cmW a = y2
  unfold or2 cmpI
  rcases Int.lt_trichotomy x1 x2 with h | h | h
  · simp [h]; omega
  · subst h
    rcases Int.lt_trichotomy y1 y2 with h | h | h
    · simp [h]; omega
    · subst h; simp
    · have h1 : ¬ y1 < y2 := by omega
      have h2 : ¬ y1 = y2 := by omega
      simp [h, h1, h2]
  · have h1 : ¬ x1 < x2 := by omega
    have h2 : ¬ x1 = x2 := by omega
    simp [h, h1, h2]
theorem ccmp_ne {a b : Int} (h : ccmp a b ≠ 0) : SpK a ∧ SpK b := by
  unfold ccmp spC at h
  by_cases h1 : spR (cmX a) (cmY a) (cmW a) = true
  · by_cases h2 : spR (cmX b) (cmY b) (cmW b) = true
    · exact ⟨spR_iff.1 h1, spR_iff.1 h2⟩
    · rw [Bool.not_eq_true] at h2
      rw [h1, h2] at h; simp at h
  · rw [Bool.not_eq_true] at h1
    rw [h1] at h; simp at h
end Go.Proofs.Ytkaolhlmimalkaa

namespace Go.Proofs.Ytkaolhlmimalkaa
open Go.RowKit

/-- a place put among others -/
def qput (x : Int) : List Int → List Int
  | [] => [x]
  | y :: l => if ky x = ky y then y :: l else if ky x < ky y then x :: y :: l else y :: qput x l
theorem qput_mem {x z : Int} : ∀ {l : List Int}, z ∈ qput x l → z = x ∨ z ∈ l
  | [], h => .inl (List.mem_singleton.1 h)
  | y :: l, h => by
    unfold qput at h; split at h
    · exact .inr h
    · split at h
      · rcases List.mem_cons.1 h with h | h
        · exact .inl h
        · exact .inr h
      · rcases List.mem_cons.1 h with h | h
        · exact .inr (h ▸ List.mem_cons_self ..)
        · exact (qput_mem h).imp id (List.mem_cons_of_mem _)
theorem qput_new (x : Int) : ∀ (P Q : List Int), (∀ z ∈ P, ky z < ky x) → (∀ z ∈ Q, ky x < ky z) → qput x (P ++ Q) = P ++ x :: Q
  | [], [], _, _ => rfl
  | [], y :: Q, _, hQ => by
    have := hQ y (List.mem_cons_self ..)
    show qput x (y :: Q) = x :: y :: Q
    unfold qput; rw [if_neg (by omega), if_pos this]
  | y :: P, Q, hP, hQ => by
    have := hP y (List.mem_cons_self ..)
    show qput x (y :: (P ++ Q)) = y :: (P ++ x :: Q)
    rw [qput, if_neg (by omega), if_neg (by omega), qput_new x P Q (fun z hz => hP z (List.mem_cons_of_mem _ hz)) hQ]
theorem qput_old (x : Int) : ∀ (l : List Int), UpK ky l → (∃ z ∈ l, ky z = ky x) → qput x l = l
  | [], _, h => by obtain ⟨z, hz, _⟩ := h; cases hz
  | y :: l, hu, h => by
    obtain ⟨z, hz, hk⟩ := h
    unfold qput
    by_cases e : ky x = ky y
    · rw [if_pos e]
    · rcases List.mem_cons.1 hz with rfl | hz
      · exact absurd hk.symm e
      · have h1 := (List.pairwise_cons.1 hu).1 z hz
        rw [if_neg e, if_neg (by omega), qput_old x l (List.pairwise_cons.1 hu).2 ⟨z, hz, hk⟩]
/-- the set at block t holds these places -/
structure Que (w : World) (t : Nat) (S : TS) (T : Tr) (q : Nat) (L : List Int) : Prop where
  m : TM2 w t S
  inv : Inv ky S T q
  ord : S.ord = ordC
  lv : vals S T = L
section
variable {w : World} {t : Nat} {S : TS} {T : Tr} {q : Nat} {L : List Int}
theorem Que.ok (h : Que w t S T q L) : OrdOk S.ord ccmp := by rw [h.ord]; exact ordC_ok
theorem Que.of {w' : World} (h : Que w t S T q L) (hb : Below w.heap.size w w') : Que w' t S T q L := ⟨h.m.of hb, h.inv, h.ord, h.lv⟩
theorem Que.outs {w' : World} {K : List Nat} (h : Que w t S T q L) (ho : OutL K w w') (h1 : t ∉ K) (h2 : S.nb ∉ K) (h3 : S.fb ∉ K) : Que w' t S T q L := ⟨h.m.outs ho h1 h2 h3, h.inv, h.ord, h.lv⟩
theorem Que.up (h : Que w t S T q L) : UpK ky L := by rw [← h.lv]; exact srt_up.1 h.inv.srt
theorem Que.sp (h : Que w t S T q L) : ∀ x ∈ L, SpK x := by
  intro x hx
  rw [← h.lv] at hx
  obtain ⟨n, hn, rfl⟩ := List.mem_map.1 hx
  exact h.inv.sp n hn
theorem Que.len (h : Que w t S T q L) : L.length ≤ q := by
  rw [← h.lv]; unfold vals; rw [List.length_map, Tr.no_len]; exact h.inv.sz
/-- a place that is found nowhere -/
theorem Que.miss (h : Que w t S T q L) {x : Int} (hx : SpK x) (hn : T.found (fun i => ccmp x (S.v i)) = 0) : ∀ z ∈ L, ky z ≠ ky x := by
  obtain ⟨T', P, Q, _, h2, h3, h4, _⟩ := put_inv ordK_ky h.inv x hx hn 0 0
  intro z hz
  rw [← h.lv] at hz
  obtain ⟨n, hn, rfl⟩ := List.mem_map.1 hz
  rw [h2] at hn
  rcases List.mem_append.1 hn with hn | hn
  · have := h3 n hn; omega
  · have := h4 n hn; omega
theorem Que_put (hq : q < 100000) {x : Int} (hx : SpK x) (h : Que w t S T q L) :
    Calls Try.prog 36 #[ptr t 0, pK x] w fun e w' => (∃ b, e = .returned (.bool b)) ∧ ∃ S' T', Que w' t S' T' (q + 1) (qput x L) ∧ Fr t S S' w w' := by
  by_cases hn : T.found (fun i => ccmp x (S.v i)) = 0
  · refine (Put_ok t ordK_ky h.inv x hx hn hq w h.m h.ok).mono ?_
    rintro e w' ⟨rfl, S', ⟨T', P, Q, h1, h2, h3, h4, h5⟩, h6, h7, h8⟩
    refine ⟨⟨_, rfl⟩, S', T', ⟨h7, h1, h6.trans h.ord, ?_⟩, h8⟩
    rw [h5, ← h.lv]
    unfold vals
    rw [h2, List.map_append, qput_new]
    · intro z hz
      obtain ⟨n, hn, rfl⟩ := List.mem_map.1 hz
      exact h3 n hn
    · intro z hz
      obtain ⟨n, hn, rfl⟩ := List.mem_map.1 hz
      exact h4 n hn
  · obtain ⟨n, hn'⟩ : ∃ n, T.found (fun i => ccmp x (S.v i)) = n := ⟨_, rfl⟩
    obtain ⟨z, l, r, _, z2, _, z4, z5, _, _⟩ := found_split ordK_ky h.inv x hx n hn' (fun e => hn (hn'.trans e))
    refine (Put_old t S ccmp x T _ rfl hn w h.m.m h.ok trivial h.inv.ok.rep h.inv.v64 (by have := h.inv.sz; omega)).mono ?_
    rintro e w' ⟨rfl, hb⟩
    refine ⟨⟨_, rfl⟩, S, T, ⟨(h.of hb).m, h.inv.more, h.ord, ?_⟩, .ofBelow hb⟩
    rw [qput_old x L h.up ⟨S.v n, ?_, z5⟩, h.lv]
    rw [← h.lv]
    refine List.mem_map.2 ⟨n, ?_, rfl⟩
    rw [← z2, plug_mem]; left; show n ∈ l.no ++ n :: r.no; simp
/-- the node of the first thing has nothing ahead of it -/
theorem Ok.first {S : TS} : ∀ {j : Nat} {T : Tr} {n : Nat} {l : List Nat}, Ok S j T → T.no = n :: l → S.k n 0 = 0
  | _, .nil, _, _, _, h => by cases h
  | _, .nd i .nil r, n, l, ho, h => by
    have : i = n := by injection h
    subst this
    exact ho.2.2.2.2.1
  | _, .nd i (.nd a b c) r, n, l, ho, h => by
    have e : (Tr.nd a b c).no = n :: ((Tr.nd a b c).no.tail) := by
      have h' : (Tr.nd a b c).no ++ i :: r.no = n :: l := h
      cases hq : (Tr.nd a b c).no with
      | nil => have : b.no ++ a :: c.no = [] := hq; simp at this
      | cons u v => rw [hq] at h'; injection h' with h1 h2; rw [h1]; rfl
    exact Ok.first ho.2.2.2.2.1 e
theorem Que_del (hq : q < 100000) {x : Int} {L' : List Int} (h : Que w t S T q (x :: L')) :
    Calls Try.prog 18 #[ptr t 0, pK x] w fun e w' => e = .returned (.bool true) ∧ ∃ S' T', Que w' t S' T' (q + 1) L' ∧ Fr t S S' w w' := by
  have hx := h.sp x (List.mem_cons_self ..)
  have hu := h.up
  obtain ⟨n0, l0, hno, hv0, hvl⟩ : ∃ n0 l0, T.no = n0 :: l0 ∧ S.v n0 = x ∧ l0.map S.v = L' := by
    have := h.lv
    unfold vals at this
    cases hT : T.no with
    | nil => rw [hT] at this; cases this
    | cons a b => rw [hT] at this; injection this with h1 h2; exact ⟨a, b, rfl, h1, h2⟩
  have hn0 : T.found (fun i => ccmp x (S.v i)) ≠ 0 := fun hn => h.miss hx hn x (List.mem_cons_self ..) rfl
  have huq : ∀ n ∈ T.no, ky (S.v n) = ky x → n = n0 := by
    intro n hn hk
    rw [hno] at hn
    rcases List.mem_cons.1 hn with e | hn
    · exact e
    · exfalso
      have := (List.pairwise_cons.1 hu).1 (S.v n) (by rw [← hvl]; exact List.mem_map.2 ⟨n, hn, rfl⟩)
      omega
  refine (Del_ok t ordK_ky h.inv x hx hn0 (fun n hn => ?_) hq w h.m h.ok).mono ?_
  · obtain ⟨z, l, r, _, z2, _, z4, z5, _, _⟩ := found_split ordK_ky h.inv x hx n hn (fun e => hn0 (hn.trans e))
    have : n = n0 := huq n (by rw [← z2, plug_mem]; left; show n ∈ l.no ++ n :: r.no; simp) z5
    rw [this]
    exact Ok.first h.inv.ok hno
  · rintro e w' ⟨rfl, S', ⟨T', n, P, Q, h1, h2, h3, h4, h5, h6⟩, h7, h8, h9⟩
    refine ⟨rfl, S', T', ⟨h8, h1, h7.trans h.ord, ?_⟩, h9⟩
    have hn : n = n0 := huq n (by rw [h2]; simp) h3
    have hP : P = [] := by
      cases P with
      | nil => rfl
      | cons a P =>
        exfalso
        rw [hno] at h2
        injection h2 with a1 a2
        have := h4 a (List.mem_cons_self ..)
        rw [← a1, hv0] at this; omega
    subst hP
    rw [hno] at h2
    injection h2 with a1 a2
    rw [h6, ← hvl, a2]; rfl
theorem Tr.down0_pos : ∀ {T : Tr} {n : Nat} {l : List Nat}, T.no = n :: l → ((T.down0).getD ((T.down0).length - 1) (0, 0)).1 = n
  | .nil, _, _, h => by cases h
  | .nd i .nil r, n, l, h => by injection h
  | .nd i (.nd a b c) r, n, l, h => by
    have e : (Tr.nd a b c).no = n :: ((Tr.nd a b c).no.tail) := by
      have h' : (Tr.nd a b c).no ++ i :: r.no = n :: l := h
      cases hq : (Tr.nd a b c).no with
      | nil => have : b.no ++ a :: c.no = [] := hq; simp at this
      | cons u v => rw [hq] at h'; injection h' with h1 h2; rw [h1]; rfl
    have := Tr.down0_pos e
    show (((i, 0) :: (Tr.nd a b c).down0).getD (((i, 0) :: (Tr.nd a b c).down0).length - 1) (0, 0)).1 = n
    have hl : (Tr.nd a b c).down0.length = b.down0.length + 1 := rfl
    rw [List.length_cons, Nat.add_sub_cancel, show (Tr.nd a b c).down0.length = ((Tr.nd a b c).down0.length - 1) + 1 by omega, List.getD_cons_succ]
    exact this
theorem Que_first {z : Bool} (hz : decide (L ≠ []) = z) {x : Int} (hx : L.headD 0 = x) (h : Que w t S T q L) (hq : q < 100000) :
    Calls Try.prog 17 #[ptr t 0] w fun e w' => e = .returned (.tuple #[pK x, .bool z]) ∧ Below w.heap.size w w' := by
  have hs := h.inv.sz
  cases hT : T.no with
  | nil =>
    have hL : L = [] := by rw [← h.lv]; unfold vals; rw [hT]; rfl
    have hTn : T = .nil := by
      cases T with
      | nil => rfl
      | nd a b c => have : b.no ++ a :: c.no = [] := hT; simp at this
    subst hL hTn
    have := First_is t S .nil 0 rfl false (by decide) w h.m.m h.inv.l0 h.inv.ok.rep h.inv.l0 (by omega)
    rw [h.inv.v0] at this
    obtain rfl : 0 = x := hx
    obtain rfl : false = z := by rw [← hz]; rfl
    exact this
  | cons n l =>
    have hL : L = S.v n :: l.map S.v := by rw [← h.lv]; unfold vals; rw [hT]; rfl
    have hn := h.inv.ok.pos n (by rw [hT]; exact List.mem_cons_self ..)
    have := First_is t S T n (Tr.down0_pos hT) true (by rw [decide_eq_true]; omega) w h.m.m h.inv.l0 h.inv.ok.rep hn.2 (by omega)
    rw [hL] at hx hz
    obtain rfl : S.v n = x := hx
    obtain rfl : true = z := by rw [← hz]; rfl
    exact this
end
theorem Que_new (w : World) : Calls Try.prog 35 #[ordC] w fun e w' => ∃ t S, e = .returned (ptr t 0) ∧ Que w' t S .nil 0 [] ∧ w.heap.size ≤ t ∧ w.heap.size ≤ S.nb ∧ w.heap.size ≤ S.fb ∧ Below w.heap.size w w' := by
  refine (New_is 9 w).mono ?_
  rintro e w' ⟨t, nb, rfl, hm, ht, hn, hb⟩
  refine ⟨t, TS.new ordC nb, rfl, ⟨hm, ?_, rfl, rfl⟩, ht, hn, hn, hb⟩
  refine ⟨rfl, trivial, List.nodup_nil, Nat.one_pos, rfl, rfl, ?_, ?_, ?_, ?_, rfl, List.Pairwise.nil, fun _ _ => trivial, Nat.le_refl _, Nat.le_refl _, Nat.le_refl _, ?_⟩
  · intro j hj s hs; exact Nat.one_pos
  · intro j hj
    show (0 : Int) ≤ 0 ∧ (0 : Int) ≤ _
    exact ⟨Int.le_refl _, by decide⟩
  · intro j hj; exact absurd (show j < 0 from hj) (by omega)
  · intro i j hi; exact absurd (show i < 0 from hi) (by omega)
  · intro n hn; cases hn
end Go.Proofs.Ytkaolhlmimalkaa

namespace Go.Proofs.Ytkaolhlmimalkaa
open Go.RowKit

def lox (ax : Int) (ay : Int) (bx : Int) (b_y : Int) : Int := (atx (lwx ax ay bx b_y) (lwy ax ay bx b_y))

def loy (ax : Int) (ay : Int) (bx : Int) (b_y : Int) : Int := (aty (lwx ax ay bx b_y) (lwy ax ay bx b_y))

def lov (ax : Int) (ay : Int) (bx : Int) (b_y : Int) : Int := (atw (lwx ax ay bx b_y) (lwy ax ay bx b_y))

theorem lox_in (ax : Int) (ay : Int) (bx : Int) (b_y : Int) (_iax : In64 ax) (_iay : In64 ay) (_ibx : In64 bx) (_ib_y : In64 b_y) : InI (lox ax ay bx b_y) := by
  unfold lox
  exact (atx_in (lwx ax ay bx b_y) (lwy ax ay bx b_y) (lwx_in ax ay bx b_y _iax _iay _ibx _ib_y) (lwy_in ax ay bx b_y _iax _iay _ibx _ib_y))

theorem loy_in (ax : Int) (ay : Int) (bx : Int) (b_y : Int) (_iax : In64 ax) (_iay : In64 ay) (_ibx : In64 bx) (_ib_y : In64 b_y) : InI (loy ax ay bx b_y) := by
  unfold loy
  exact (aty_in (lwx ax ay bx b_y) (lwy ax ay bx b_y) (lwx_in ax ay bx b_y _iax _iay _ibx _ib_y) (lwy_in ax ay bx b_y _iax _iay _ibx _ib_y))

theorem lov_in (ax : Int) (ay : Int) (bx : Int) (b_y : Int) (_iax : In64 ax) (_iay : In64 ay) (_ibx : In64 bx) (_ib_y : In64 b_y) : InI (lov ax ay bx b_y) := by
  unfold lov
  exact (atw_in (lwx ax ay bx b_y) (lwy ax ay bx b_y) (lwx_in ax ay bx b_y _iax _iay _ibx _ib_y) (lwy_in ax ay bx b_y _iax _iay _ibx _ib_y))

set_option maxRecDepth 100000 in
set_option maxHeartbeats 4000000 in

theorem slow_is (ax : Int) (ay : Int) (bx : Int) (b_y : Int)  (R0 : Int) (R1 : Int) (R2 : Int) (hR0 : lox ax ay bx b_y = R0) (hR1 : loy ax ay bx b_y = R1) (hR2 : lov ax ay bx b_y = R2) (_iax : In64 ax) (_iay : In64 ay) (_ibx : In64 bx) (_ib_y : In64 b_y)  (w : World)  :
    Calls Try.prog 37 #[.agg #[.int .i64 ax, .int .i64 ay, .int .i64 bx, .int .i64 b_y]] w fun e w' => e = .returned (.agg #[.int .u64 (wd0 R0), .int .u64 (wd1 R0), .int .u64 (wd2 R0), .int .u64 (wd3 R0), .int .u64 (wd0 R1), .int .u64 (wd1 R1), .int .u64 (wd2 R1), .int .u64 (wd3 R1), .int .u64 (wd0 R2), .int .u64 (wd1 R2), .int .u64 (wd2 R2), .int .u64 (wd3 R2)]) ∧ Below w.heap.size w w' := by

  have HR0 := Lib.hid hR0; clear hR0; have HR1 := Lib.hid hR1; clear hR1; have HR2 := Lib.hid hR2; clear hR2
  go_enter Try.func37, Try.ntmps37
  go_wp2_with fail
  first | refine calls_w ?_ | refine name_world ?_ | refine list_world ?_ | refine post_world ?_
  intro V1 hV1
  have hn : Below w.heap.size w V1 := by rw [hV1]; exact below_a2 _ _ _
  have nhb0 := hn
  have k1 : Blk V1 w.heap.size #[.int .i64 ax, .int .i64 ay, .int .i64 bx, .int .i64 b_y] 46 := by rw [hV1]; exact ((Blk.new _ _ _).alloc _)
  have k2 : Blk V1 (w.heap.size + 1) #[.int .u64 0, .int .u64 0, .int .u64 0, .int .u64 0, .int .u64 0, .int .u64 0, .int .u64 0, .int .u64 0, .int .u64 0, .int .u64 0, .int .u64 0, .int .u64 0] 36 := by rw [hV1]; exact (Blk.new1 _ _ _ _)
  clear hV1; have hb0 := nhb0; clear nhb0
  obtain ⟨r1, hr1⟩ : ∃ o_o : Int, lwx ax ay bx b_y = o_o := ⟨_, rfl⟩
  have Hr1 := Lib.hid hr1; clear hr1
  obtain ⟨r2, hr2⟩ : ∃ o_o : Int, lwy ax ay bx b_y = o_o := ⟨_, rfl⟩
  have Hr2 := Lib.hid hr2; clear hr2
  obtain ⟨r3, hr3⟩ : ∃ o_o : Int, hgx ax ay bx b_y = o_o := ⟨_, rfl⟩
  have Hr3 := Lib.hid hr3; clear hr3
  obtain ⟨r4, hr4⟩ : ∃ o_o : Int, hgy ax ay bx b_y = o_o := ⟨_, rfl⟩
  have Hr4 := Lib.hid hr4; clear hr4
  refine (Ends_is ax ay bx b_y r1 r2 r3 r4 Hr1.out Hr2.out Hr3.out Hr4.out _iax _iay _ibx _ib_y  _).mono ?_
  rintro e U2 ⟨rfl, hn⟩
  clear k1; replace k2 := k2.of hn
  replace hb0 := hb0.trans (hn.mono hb0.size)
  clear hn
  go_wp2_with fail
  first | refine calls_w ?_ | refine name_world ?_ | refine list_world ?_ | refine post_world ?_
  intro V3 hV3
  have D1 := Lib.hid k2.lt; have D2 := Lib.hid hb0.size
  have hn : Below U2.heap.size U2 V3 := by rw [hV3]; exact below_a2 _ _ _
  have nk2 := k2.of hn
  have nhb0 := hb0.trans (hn.mono hb0.size)
  clear hn
  have k3 : Blk V3 U2.heap.size #[.int .i64 r1, .int .i64 r2] 44 := by rw [hV3]; exact ((Blk.new _ _ _).alloc _)
  have k4 : Blk V3 (U2.heap.size + 1) #[.int .i64 r3, .int .i64 r4] 44 := by rw [hV3]; exact (Blk.new1 _ _ _ _)
  clear k2; clear hb0; clear hV3; have k2 := nk2; clear nk2; have hb0 := nhb0; clear nhb0
  obtain ⟨r5, hr5⟩ : ∃ o_o : Int, atx r1 r2 = o_o := ⟨_, rfl⟩
  have Hr5 := Lib.hid hr5; clear hr5
  obtain ⟨r6, hr6⟩ : ∃ o_o : Int, aty r1 r2 = o_o := ⟨_, rfl⟩
  have Hr6 := Lib.hid hr6; clear hr6
  obtain ⟨r7, hr7⟩ : ∃ o_o : Int, atw r1 r2 = o_o := ⟨_, rfl⟩
  have Hr7 := Lib.hid hr7; clear hr7
  refine (crAt_is r1 r2 r5 r6 r7 Hr5.out Hr6.out Hr7.out (Hr1.out ▸ lwx_in ax ay bx b_y _iax _iay _ibx _ib_y) (Hr2.out ▸ lwy_in ax ay bx b_y _iax _iay _ibx _ib_y)  _).mono ?_
  rintro e U4 ⟨rfl, hn⟩
  clear k3 k4; replace k2 := k2.of hn
  replace hb0 := hb0.trans (hn.mono hb0.size)
  clear hn; obtain ⟨c2_0, c2_1, c2_2, c2_3, c2_4, c2_5, c2_6, c2_7, c2_8, c2_9, c2_10, c2_11⟩ := cel12 k2; obtain ⟨f2_0, f2_1, f2_2, f2_3, f2_4, f2_5, f2_6, f2_7, f2_8, f2_9, f2_10, f2_11⟩ := fre12 k2; have l2 := k2.lt
  have e0 : r5 = R0 := by rw [← HR0.out]; unfold lox; (try rw [Hr1.out]); (try rw [Hr2.out]); (try rw [Hr3.out]); (try rw [Hr4.out]); (try rw [Hr5.out]); (try rw [Hr6.out]); (try rw [Hr7.out]); all_goals first | rfl | simp
  have e1 : r6 = R1 := by rw [← HR1.out]; unfold loy; (try rw [Hr1.out]); (try rw [Hr2.out]); (try rw [Hr3.out]); (try rw [Hr4.out]); (try rw [Hr5.out]); (try rw [Hr6.out]); (try rw [Hr7.out]); all_goals first | rfl | simp
  have e2 : r7 = R2 := by rw [← HR2.out]; unfold lov; (try rw [Hr1.out]); (try rw [Hr2.out]); (try rw [Hr3.out]); (try rw [Hr4.out]); (try rw [Hr5.out]); (try rw [Hr6.out]); (try rw [Hr7.out]); all_goals first | rfl | simp
  subst e0; subst e1; subst e2
  go_wp2
  clear c2_0 c2_1 c2_2 c2_3 c2_4 c2_5 c2_6 c2_7 c2_8 c2_9 c2_10 c2_11 f2_0 f2_1 f2_2 f2_3 f2_4 f2_5 f2_6 f2_7 f2_8 f2_9 f2_10 f2_11 l2
  first | refine post_world ?_
  intro V5 hV5
  have D3 := Lib.hid k2.lt; have D4 := Lib.hid hb0.size
  have nk2 : Blk V5 (w.heap.size + 1) #[.int .u64 (wd0 r5), .int .u64 (wd1 r5), .int .u64 (wd2 r5), .int .u64 (wd3 r5), .int .u64 (wd0 r6), .int .u64 (wd1 r6), .int .u64 (wd2 r6), .int .u64 (wd3 r6), .int .u64 (wd0 r7), .int .u64 (wd1 r7), .int .u64 (wd2 r7), .int .u64 (wd3 r7)] 36 := by rw [hV5]; exact (blk_full _ [.int .u64 (wd0 r5), .int .u64 (wd1 r5), .int .u64 (wd2 r5), .int .u64 (wd3 r5), .int .u64 (wd0 r6), .int .u64 (wd1 r6), .int .u64 (wd2 r6), .int .u64 (wd3 r6), .int .u64 (wd0 r7), .int .u64 (wd1 r7), .int .u64 (wd2 r7), .int .u64 (wd3 r7)] k2 rfl)
  have nhb0 : Below w.heap.size w V5 := by rw [hV5]; exact (blw_setL hb0 (by omega) 0 [.int .u64 (wd0 r5), .int .u64 (wd1 r5), .int .u64 (wd2 r5), .int .u64 (wd3 r5), .int .u64 (wd0 r6), .int .u64 (wd1 r6), .int .u64 (wd2 r6), .int .u64 (wd3 r6), .int .u64 (wd0 r7), .int .u64 (wd1 r7), .int .u64 (wd2 r7), .int .u64 (wd3 r7)])
  clear k2; clear hb0; clear hV5; have k2 := nk2; clear nk2; have hb0 := nhb0; clear nhb0; obtain ⟨g2_0, g2_1, g2_2, g2_3, g2_4, g2_5, g2_6, g2_7, g2_8, g2_9, g2_10, g2_11⟩ := cel12 k2; clear k2
  simp [bodyPost, results, Try.results37, go_sem, g2_0, g2_1, g2_2, g2_3, g2_4, g2_5, g2_6, g2_7, g2_8, g2_9, g2_10, g2_11]
  first | exact hb0 | exact ⟨rfl, hb0⟩

def hix (ax : Int) (ay : Int) (bx : Int) (b_y : Int) : Int := (atx (hgx ax ay bx b_y) (hgy ax ay bx b_y))

def hiy (ax : Int) (ay : Int) (bx : Int) (b_y : Int) : Int := (aty (hgx ax ay bx b_y) (hgy ax ay bx b_y))

def hiv (ax : Int) (ay : Int) (bx : Int) (b_y : Int) : Int := (atw (hgx ax ay bx b_y) (hgy ax ay bx b_y))

theorem hix_in (ax : Int) (ay : Int) (bx : Int) (b_y : Int) (_iax : In64 ax) (_iay : In64 ay) (_ibx : In64 bx) (_ib_y : In64 b_y) : InI (hix ax ay bx b_y) := by
  unfold hix
  exact (atx_in (hgx ax ay bx b_y) (hgy ax ay bx b_y) (hgx_in ax ay bx b_y _iax _iay _ibx _ib_y) (hgy_in ax ay bx b_y _iax _iay _ibx _ib_y))

theorem hiy_in (ax : Int) (ay : Int) (bx : Int) (b_y : Int) (_iax : In64 ax) (_iay : In64 ay) (_ibx : In64 bx) (_ib_y : In64 b_y) : InI (hiy ax ay bx b_y) := by
  unfold hiy
  exact (aty_in (hgx ax ay bx b_y) (hgy ax ay bx b_y) (hgx_in ax ay bx b_y _iax _iay _ibx _ib_y) (hgy_in ax ay bx b_y _iax _iay _ibx _ib_y))

theorem hiv_in (ax : Int) (ay : Int) (bx : Int) (b_y : Int) (_iax : In64 ax) (_iay : In64 ay) (_ibx : In64 bx) (_ib_y : In64 b_y) : InI (hiv ax ay bx b_y) := by
  unfold hiv
  exact (atw_in (hgx ax ay bx b_y) (hgy ax ay bx b_y) (hgx_in ax ay bx b_y _iax _iay _ibx _ib_y) (hgy_in ax ay bx b_y _iax _iay _ibx _ib_y))

set_option maxRecDepth 100000 in
set_option maxHeartbeats 4000000 in

theorem shigh_is (ax : Int) (ay : Int) (bx : Int) (b_y : Int)  (R0 : Int) (R1 : Int) (R2 : Int) (hR0 : hix ax ay bx b_y = R0) (hR1 : hiy ax ay bx b_y = R1) (hR2 : hiv ax ay bx b_y = R2) (_iax : In64 ax) (_iay : In64 ay) (_ibx : In64 bx) (_ib_y : In64 b_y)  (w : World)  :
    Calls Try.prog 38 #[.agg #[.int .i64 ax, .int .i64 ay, .int .i64 bx, .int .i64 b_y]] w fun e w' => e = .returned (.agg #[.int .u64 (wd0 R0), .int .u64 (wd1 R0), .int .u64 (wd2 R0), .int .u64 (wd3 R0), .int .u64 (wd0 R1), .int .u64 (wd1 R1), .int .u64 (wd2 R1), .int .u64 (wd3 R1), .int .u64 (wd0 R2), .int .u64 (wd1 R2), .int .u64 (wd2 R2), .int .u64 (wd3 R2)]) ∧ Below w.heap.size w w' := by

  have HR0 := Lib.hid hR0; clear hR0; have HR1 := Lib.hid hR1; clear hR1; have HR2 := Lib.hid hR2; clear hR2
  go_enter Try.func38, Try.ntmps38
  go_wp2_with fail
  first | refine calls_w ?_ | refine name_world ?_ | refine list_world ?_ | refine post_world ?_
  intro V1 hV1
  have hn : Below w.heap.size w V1 := by rw [hV1]; exact below_a2 _ _ _
  have nhb0 := hn
  have k1 : Blk V1 w.heap.size #[.int .i64 ax, .int .i64 ay, .int .i64 bx, .int .i64 b_y] 46 := by rw [hV1]; exact ((Blk.new _ _ _).alloc _)
  have k2 : Blk V1 (w.heap.size + 1) #[.int .u64 0, .int .u64 0, .int .u64 0, .int .u64 0, .int .u64 0, .int .u64 0, .int .u64 0, .int .u64 0, .int .u64 0, .int .u64 0, .int .u64 0, .int .u64 0] 36 := by rw [hV1]; exact (Blk.new1 _ _ _ _)
  clear hV1; have hb0 := nhb0; clear nhb0
  obtain ⟨r1, hr1⟩ : ∃ o_o : Int, lwx ax ay bx b_y = o_o := ⟨_, rfl⟩
  have Hr1 := Lib.hid hr1; clear hr1
  obtain ⟨r2, hr2⟩ : ∃ o_o : Int, lwy ax ay bx b_y = o_o := ⟨_, rfl⟩
  have Hr2 := Lib.hid hr2; clear hr2
  obtain ⟨r3, hr3⟩ : ∃ o_o : Int, hgx ax ay bx b_y = o_o := ⟨_, rfl⟩
  have Hr3 := Lib.hid hr3; clear hr3
  obtain ⟨r4, hr4⟩ : ∃ o_o : Int, hgy ax ay bx b_y = o_o := ⟨_, rfl⟩
  have Hr4 := Lib.hid hr4; clear hr4
  refine (Ends_is ax ay bx b_y r1 r2 r3 r4 Hr1.out Hr2.out Hr3.out Hr4.out _iax _iay _ibx _ib_y  _).mono ?_
  rintro e U2 ⟨rfl, hn⟩
  clear k1; replace k2 := k2.of hn
  replace hb0 := hb0.trans (hn.mono hb0.size)
  clear hn
  go_wp2_with fail
  first | refine calls_w ?_ | refine name_world ?_ | refine list_world ?_ | refine post_world ?_
  intro V3 hV3
  have D1 := Lib.hid k2.lt; have D2 := Lib.hid hb0.size
  have hn : Below U2.heap.size U2 V3 := by rw [hV3]; exact below_a2 _ _ _
  have nk2 := k2.of hn
  have nhb0 := hb0.trans (hn.mono hb0.size)
  clear hn
  have k3 : Blk V3 U2.heap.size #[.int .i64 r1, .int .i64 r2] 44 := by rw [hV3]; exact ((Blk.new _ _ _).alloc _)
  have k4 : Blk V3 (U2.heap.size + 1) #[.int .i64 r3, .int .i64 r4] 44 := by rw [hV3]; exact (Blk.new1 _ _ _ _)
  clear k2; clear hb0; clear hV3; have k2 := nk2; clear nk2; have hb0 := nhb0; clear nhb0
  obtain ⟨r5, hr5⟩ : ∃ o_o : Int, atx r3 r4 = o_o := ⟨_, rfl⟩
  have Hr5 := Lib.hid hr5; clear hr5
  obtain ⟨r6, hr6⟩ : ∃ o_o : Int, aty r3 r4 = o_o := ⟨_, rfl⟩
  have Hr6 := Lib.hid hr6; clear hr6
  obtain ⟨r7, hr7⟩ : ∃ o_o : Int, atw r3 r4 = o_o := ⟨_, rfl⟩
  have Hr7 := Lib.hid hr7; clear hr7
  refine (crAt_is r3 r4 r5 r6 r7 Hr5.out Hr6.out Hr7.out (Hr3.out ▸ hgx_in ax ay bx b_y _iax _iay _ibx _ib_y) (Hr4.out ▸ hgy_in ax ay bx b_y _iax _iay _ibx _ib_y)  _).mono ?_
  rintro e U4 ⟨rfl, hn⟩
  clear k3 k4; replace k2 := k2.of hn
  replace hb0 := hb0.trans (hn.mono hb0.size)
  clear hn; obtain ⟨c2_0, c2_1, c2_2, c2_3, c2_4, c2_5, c2_6, c2_7, c2_8, c2_9, c2_10, c2_11⟩ := cel12 k2; obtain ⟨f2_0, f2_1, f2_2, f2_3, f2_4, f2_5, f2_6, f2_7, f2_8, f2_9, f2_10, f2_11⟩ := fre12 k2; have l2 := k2.lt
  have e0 : r5 = R0 := by rw [← HR0.out]; unfold hix; (try rw [Hr1.out]); (try rw [Hr2.out]); (try rw [Hr3.out]); (try rw [Hr4.out]); (try rw [Hr5.out]); (try rw [Hr6.out]); (try rw [Hr7.out]); all_goals first | rfl | simp
  have e1 : r6 = R1 := by rw [← HR1.out]; unfold hiy; (try rw [Hr1.out]); (try rw [Hr2.out]); (try rw [Hr3.out]); (try rw [Hr4.out]); (try rw [Hr5.out]); (try rw [Hr6.out]); (try rw [Hr7.out]); all_goals first | rfl | simp
  have e2 : r7 = R2 := by rw [← HR2.out]; unfold hiv; (try rw [Hr1.out]); (try rw [Hr2.out]); (try rw [Hr3.out]); (try rw [Hr4.out]); (try rw [Hr5.out]); (try rw [Hr6.out]); (try rw [Hr7.out]); all_goals first | rfl | simp
  subst e0; subst e1; subst e2
  go_wp2
  clear c2_0 c2_1 c2_2 c2_3 c2_4 c2_5 c2_6 c2_7 c2_8 c2_9 c2_10 c2_11 f2_0 f2_1 f2_2 f2_3 f2_4 f2_5 f2_6 f2_7 f2_8 f2_9 f2_10 f2_11 l2
  first | refine post_world ?_
  intro V5 hV5
  have D3 := Lib.hid k2.lt; have D4 := Lib.hid hb0.size
  have nk2 : Blk V5 (w.heap.size + 1) #[.int .u64 (wd0 r5), .int .u64 (wd1 r5), .int .u64 (wd2 r5), .int .u64 (wd3 r5), .int .u64 (wd0 r6), .int .u64 (wd1 r6), .int .u64 (wd2 r6), .int .u64 (wd3 r6), .int .u64 (wd0 r7), .int .u64 (wd1 r7), .int .u64 (wd2 r7), .int .u64 (wd3 r7)] 36 := by rw [hV5]; exact (blk_full _ [.int .u64 (wd0 r5), .int .u64 (wd1 r5), .int .u64 (wd2 r5), .int .u64 (wd3 r5), .int .u64 (wd0 r6), .int .u64 (wd1 r6), .int .u64 (wd2 r6), .int .u64 (wd3 r6), .int .u64 (wd0 r7), .int .u64 (wd1 r7), .int .u64 (wd2 r7), .int .u64 (wd3 r7)] k2 rfl)
  have nhb0 : Below w.heap.size w V5 := by rw [hV5]; exact (blw_setL hb0 (by omega) 0 [.int .u64 (wd0 r5), .int .u64 (wd1 r5), .int .u64 (wd2 r5), .int .u64 (wd3 r5), .int .u64 (wd0 r6), .int .u64 (wd1 r6), .int .u64 (wd2 r6), .int .u64 (wd3 r6), .int .u64 (wd0 r7), .int .u64 (wd1 r7), .int .u64 (wd2 r7), .int .u64 (wd3 r7)])
  clear k2; clear hb0; clear hV5; have k2 := nk2; clear nk2; have hb0 := nhb0; clear nhb0; obtain ⟨g2_0, g2_1, g2_2, g2_3, g2_4, g2_5, g2_6, g2_7, g2_8, g2_9, g2_10, g2_11⟩ := cel12 k2; clear k2
  simp [bodyPost, results, Try.results38, go_sem, g2_0, g2_1, g2_2, g2_3, g2_4, g2_5, g2_6, g2_7, g2_8, g2_9, g2_10, g2_11]
  first | exact hb0 | exact ⟨rfl, hb0⟩

def ma1 (x : Int) (y : Int) : Bool := (!(rp x y))

set_option maxRecDepth 100000 in
set_option maxHeartbeats 4000000 in

theorem may1_is (x : Int) (y : Int)  (R0 : Bool) (hR0 : ma1 x y = R0)  (w : World)  :
    Calls Try.prog 30 #[.agg #[.int .i64 x, .int .i64 y]] w fun e w' => e = .returned (.bool R0) ∧ Below w.heap.size w w' := by

  have HR0 := Lib.hid hR0; clear hR0
  go_enter Try.func30, Try.ntmps30
  go_wp2_with fail
  first | refine calls_w ?_ | refine name_world ?_ | refine list_world ?_ | refine post_world ?_
  intro V1 hV1
  have hn : Below w.heap.size w V1 := by rw [hV1]; exact below_a1 _ _
  have nhb0 := hn
  have k1 : Blk V1 w.heap.size #[.int .i64 x, .int .i64 y] 44 := by rw [hV1]; exact (Blk.new _ _ _)
  clear hV1; have hb0 := nhb0; clear nhb0
  obtain ⟨z1, hz1⟩ : ∃ o_o : Bool, rp x y = o_o := ⟨_, rfl⟩
  have Hz1 := Lib.hid hz1; clear hz1
  refine (PtRight_v x y z1 Hz1.out _).mono ?_
  rintro e U2 ⟨rfl, hn⟩
  clear k1
  replace hb0 := hb0.trans (hn.mono hb0.size)
  clear hn
  have e0 : (!z1) = R0 := by rw [← HR0.out]; unfold ma1; (try rw [Hz1.out]); all_goals first | rfl | simp
  subst e0
  go_wp2
  first | go_ret | go_ret2
  exact ⟨by first | rfl | simp, hb0⟩

def ma2 (ax : Int) (ay : Int) (bx : Int) (b_y : Int) : Bool := (!(sgR ax ay bx b_y))

set_option maxRecDepth 100000 in
set_option maxHeartbeats 4000000 in

theorem may2_is (ax : Int) (ay : Int) (bx : Int) (b_y : Int)  (R0 : Bool) (hR0 : ma2 ax ay bx b_y = R0) (_iax : In64 ax) (_iay : In64 ay) (_ibx : In64 bx) (_ib_y : In64 b_y)  (w : World)  :
    Calls Try.prog 32 #[.agg #[.int .i64 ax, .int .i64 ay, .int .i64 bx, .int .i64 b_y]] w fun e w' => e = .returned (.bool R0) ∧ Below w.heap.size w w' := by

  have HR0 := Lib.hid hR0; clear hR0
  go_enter Try.func32, Try.ntmps32
  go_wp2_with fail
  first | refine calls_w ?_ | refine name_world ?_ | refine list_world ?_ | refine post_world ?_
  intro V1 hV1
  have hn : Below w.heap.size w V1 := by rw [hV1]; exact below_a1 _ _
  have nhb0 := hn
  have k1 : Blk V1 w.heap.size #[.int .i64 ax, .int .i64 ay, .int .i64 bx, .int .i64 b_y] 46 := by rw [hV1]; exact (Blk.new _ _ _)
  clear hV1; have hb0 := nhb0; clear nhb0
  obtain ⟨z1, hz1⟩ : ∃ o_o : Bool, sgR ax ay bx b_y = o_o := ⟨_, rfl⟩
  have Hz1 := Lib.hid hz1; clear hz1
  refine (SegRight_is ax ay bx b_y z1 Hz1.out _iax _iay _ibx _ib_y  _).mono ?_
  rintro e U2 ⟨rfl, hn⟩
  clear k1
  replace hb0 := hb0.trans (hn.mono hb0.size)
  clear hn
  have e0 : (!z1) = R0 := by rw [← HR0.out]; unfold ma2; (try rw [Hz1.out]); all_goals first | rfl | simp
  subst e0
  go_wp2
  first | go_ret | go_ret2
  exact ⟨by first | rfl | simp, hb0⟩
end Go.Proofs.Ytkaolhlmimalkaa

namespace Go.Proofs.Ytkaolhlmimalkaa
open Go.RowKit

def Sde (ax : Int) (ay : Int) (bx : Int) (b_y : Int) (x : Int) (y : Int) (v : Int) : Int := (bif (sgR ax ay bx b_y) then (bif (spR x y v) then (sde ax ay bx b_y x y v) else 0) else 0)

set_option maxRecDepth 100000 in
set_option maxHeartbeats 4000000 in

theorem SegSide_is (ax : Int) (ay : Int) (bx : Int) (b_y : Int) (x : Int) (y : Int) (v : Int)  (R0 : Int) (hR0 : Sde ax ay bx b_y x y v = R0) (_iax : In64 ax) (_iay : In64 ay) (_ibx : In64 bx) (_ib_y : In64 b_y) (_ix : InI x) (_iy : InI y) (_iv : InI v)  (w : World)  :
    Calls Try.prog 70 #[.agg #[.int .i64 ax, .int .i64 ay, .int .i64 bx, .int .i64 b_y], .agg #[.int .u64 (wd0 x), .int .u64 (wd1 x), .int .u64 (wd2 x), .int .u64 (wd3 x), .int .u64 (wd0 y), .int .u64 (wd1 y), .int .u64 (wd2 y), .int .u64 (wd3 y), .int .u64 (wd0 v), .int .u64 (wd1 v), .int .u64 (wd2 v), .int .u64 (wd3 v)]] w fun e w' => e = .returned (.int .i64 R0) ∧ Below w.heap.size w w' := by

  have HR0 := Lib.hid hR0; clear hR0
  go_enter Try.func70, Try.ntmps70
  go_wp2_with fail
  first | refine calls_w ?_ | refine name_world ?_ | refine list_world ?_ | refine post_world ?_
  intro V1 hV1
  have hn : Below w.heap.size w V1 := by rw [hV1]; exact below_a2 _ _ _
  have nhb0 := hn
  have k1 : Blk V1 w.heap.size #[.int .i64 ax, .int .i64 ay, .int .i64 bx, .int .i64 b_y] 46 := by rw [hV1]; exact ((Blk.new _ _ _).alloc _)
  have k2 : Blk V1 (w.heap.size + 1) #[.int .u64 (wd0 x), .int .u64 (wd1 x), .int .u64 (wd2 x), .int .u64 (wd3 x), .int .u64 (wd0 y), .int .u64 (wd1 y), .int .u64 (wd2 y), .int .u64 (wd3 y), .int .u64 (wd0 v), .int .u64 (wd1 v), .int .u64 (wd2 v), .int .u64 (wd3 v)] 36 := by rw [hV1]; exact (Blk.new1 _ _ _ _)
  clear hV1; have hb0 := nhb0; clear nhb0
  obtain ⟨z1, hz1⟩ : ∃ o_o : Bool, sgR ax ay bx b_y = o_o := ⟨_, rfl⟩
  have Hz1 := Lib.hid hz1; clear hz1
  refine (SegRight_is ax ay bx b_y z1 Hz1.out _iax _iay _ibx _ib_y  _).mono ?_
  rintro e U2 ⟨rfl, hn⟩
  replace k1 := k1.of hn; replace k2 := k2.of hn
  replace hb0 := hb0.trans (hn.mono hb0.size)
  clear hn
  cases z1
  · have e0 : 0 = R0 := by rw [← HR0.out]; unfold Sde; (try rw [Hz1.out]); all_goals first | rfl | simp
    subst e0
    go_wp2
    first | go_ret | go_ret2
    exact ⟨by first | rfl | simp, hb0⟩
  · have c2_0 : U2.cell? ⟨w.heap.size + 1, 0, none⟩ = some (.int .u64 (wd0 x)) := k2.cell 0
    have c2_1 : U2.cell? ⟨w.heap.size + 1, 1, none⟩ = some (.int .u64 (wd1 x)) := k2.cell 1; have c2_2 : U2.cell? ⟨w.heap.size + 1, 2, none⟩ = some (.int .u64 (wd2 x)) := k2.cell 2; have c2_3 : U2.cell? ⟨w.heap.size + 1, 3, none⟩ = some (.int .u64 (wd3 x)) := k2.cell 3; have c2_4 : U2.cell? ⟨w.heap.size + 1, 4, none⟩ = some (.int .u64 (wd0 y)) := k2.cell 4; have c2_5 : U2.cell? ⟨w.heap.size + 1, 5, none⟩ = some (.int .u64 (wd1 y)) := k2.cell 5; have c2_6 : U2.cell? ⟨w.heap.size + 1, 6, none⟩ = some (.int .u64 (wd2 y)) := k2.cell 6
    have c2_7 : U2.cell? ⟨w.heap.size + 1, 7, none⟩ = some (.int .u64 (wd3 y)) := k2.cell 7; have c2_8 : U2.cell? ⟨w.heap.size + 1, 8, none⟩ = some (.int .u64 (wd0 v)) := k2.cell 8; have c2_9 : U2.cell? ⟨w.heap.size + 1, 9, none⟩ = some (.int .u64 (wd1 v)) := k2.cell 9; have c2_10 : U2.cell? ⟨w.heap.size + 1, 10, none⟩ = some (.int .u64 (wd2 v)) := k2.cell 10; have c2_11 : U2.cell? ⟨w.heap.size + 1, 11, none⟩ = some (.int .u64 (wd3 v)) := k2.cell 11; have l2 := k2.lt
    go_wp2_with fail
    clear c2_0 c2_1 c2_2 c2_3 c2_4 c2_5 c2_6 c2_7 c2_8 c2_9 c2_10 c2_11 l2
    obtain ⟨z2, hz2⟩ : ∃ o_o : Bool, spR x y v = o_o := ⟨_, rfl⟩
    have Hz2 := Lib.hid hz2; clear hz2
    refine (SpRight_is x y v z2 Hz2.out _ix _iy _iv  _).mono ?_
    rintro e U3 ⟨rfl, hn⟩
    replace k1 := k1.of hn; replace k2 := k2.of hn
    replace hb0 := hb0.trans (hn.mono hb0.size)
    clear hn
    cases z2
    · have e0 : 0 = R0 := by rw [← HR0.out]; unfold Sde; (try rw [Hz1.out]); (try rw [Hz2.out]); all_goals first | rfl | simp
      subst e0
      go_wp2
      first | go_ret | go_ret2
      exact ⟨by first | rfl | simp, hb0⟩
    · have c1_0 : U3.cell? ⟨w.heap.size, 0, none⟩ = some (.int .i64 ax) := k1.cell 0
      have c1_1 : U3.cell? ⟨w.heap.size, 1, none⟩ = some (.int .i64 ay) := k1.cell 1; have c1_2 : U3.cell? ⟨w.heap.size, 2, none⟩ = some (.int .i64 bx) := k1.cell 2; have c1_3 : U3.cell? ⟨w.heap.size, 3, none⟩ = some (.int .i64 b_y) := k1.cell 3; have l1 := k1.lt; obtain ⟨c2_0, c2_1, c2_2, c2_3, c2_4, c2_5, c2_6, c2_7, c2_8, c2_9, c2_10, c2_11⟩ := cel12 k2; have l2 := k2.lt
      go_wp2_with fail
      clear c1_0 c1_1 c1_2 c1_3 l1 c2_0 c2_1 c2_2 c2_3 c2_4 c2_5 c2_6 c2_7 c2_8 c2_9 c2_10 c2_11 l2
      obtain ⟨r3, hr3⟩ : ∃ o_o : Int, sde ax ay bx b_y x y v = o_o := ⟨_, rfl⟩
      have Hr3 := Lib.hid hr3; clear hr3
      refine (crside_is ax ay bx b_y x y v r3 Hr3.out _iax _iay _ibx _ib_y _ix _iy _iv  _).mono ?_
      rintro e U4 ⟨rfl, hn⟩
      clear k1 k2
      replace hb0 := hb0.trans (hn.mono hb0.size)
      clear hn
      have e0 : r3 = R0 := by rw [← HR0.out]; unfold Sde; (try rw [Hz1.out]); (try rw [Hz2.out]); (try rw [Hr3.out]); all_goals first | rfl | simp
      subst e0
      go_wp2
      first | go_ret | go_ret2
      exact ⟨by first | rfl | simp, hb0⟩

def hldB (ax : Int) (ay : Int) (bx : Int) (b_y : Int) (x : Int) (y : Int) (v : Int) : Bool := (bif (sgR ax ay bx b_y) then (bif (spR x y v) then (bif ((sde ax ay bx b_y x y v) == 0) then (bif decide ((spC (atx (lwx ax ay bx b_y) (lwy ax ay bx b_y)) (aty (lwx ax ay bx b_y) (lwy ax ay bx b_y)) (atw (lwx ax ay bx b_y) (lwy ax ay bx b_y)) x y v) ≤ 0) then decide ((spC x y v (atx (hgx ax ay bx b_y) (hgy ax ay bx b_y)) (aty (hgx ax ay bx b_y) (hgy ax ay bx b_y)) (atw (hgx ax ay bx b_y) (hgy ax ay bx b_y))) ≤ 0) else false) else false) else false) else false)

set_option maxRecDepth 100000 in
set_option maxHeartbeats 4000000 in

theorem SegHolds_is (ax : Int) (ay : Int) (bx : Int) (b_y : Int) (x : Int) (y : Int) (v : Int)  (R0 : Bool) (hR0 : hldB ax ay bx b_y x y v = R0) (_iax : In64 ax) (_iay : In64 ay) (_ibx : In64 bx) (_ib_y : In64 b_y) (_ix : InI x) (_iy : InI y) (_iv : InI v)  (w : World)  :
    Calls Try.prog 88 #[.agg #[.int .i64 ax, .int .i64 ay, .int .i64 bx, .int .i64 b_y], .agg #[.int .u64 (wd0 x), .int .u64 (wd1 x), .int .u64 (wd2 x), .int .u64 (wd3 x), .int .u64 (wd0 y), .int .u64 (wd1 y), .int .u64 (wd2 y), .int .u64 (wd3 y), .int .u64 (wd0 v), .int .u64 (wd1 v), .int .u64 (wd2 v), .int .u64 (wd3 v)]] w fun e w' => e = .returned (.bool R0) ∧ Below w.heap.size w w' := by

  have HR0 := Lib.hid hR0; clear hR0
  go_enter Try.func88, Try.ntmps88
  go_wp2_with fail
  first | refine calls_w ?_ | refine name_world ?_ | refine list_world ?_ | refine post_world ?_
  intro V1 hV1
  have hn : Below w.heap.size w V1 := by rw [hV1]; exact below_a2 _ _ _
  have nhb0 := hn
  have k1 : Blk V1 w.heap.size #[.int .i64 ax, .int .i64 ay, .int .i64 bx, .int .i64 b_y] 46 := by rw [hV1]; exact ((Blk.new _ _ _).alloc _)
  have k2 : Blk V1 (w.heap.size + 1) #[.int .u64 (wd0 x), .int .u64 (wd1 x), .int .u64 (wd2 x), .int .u64 (wd3 x), .int .u64 (wd0 y), .int .u64 (wd1 y), .int .u64 (wd2 y), .int .u64 (wd3 y), .int .u64 (wd0 v), .int .u64 (wd1 v), .int .u64 (wd2 v), .int .u64 (wd3 v)] 36 := by rw [hV1]; exact (Blk.new1 _ _ _ _)
  clear hV1; have hb0 := nhb0; clear nhb0
  obtain ⟨z1, hz1⟩ : ∃ o_o : Bool, sgR ax ay bx b_y = o_o := ⟨_, rfl⟩
  have Hz1 := Lib.hid hz1; clear hz1
  refine (SegRight_is ax ay bx b_y z1 Hz1.out _iax _iay _ibx _ib_y  _).mono ?_
  rintro e U2 ⟨rfl, hn⟩
  replace k1 := k1.of hn; replace k2 := k2.of hn
  replace hb0 := hb0.trans (hn.mono hb0.size)
  clear hn
  cases z1
  · have e0 : false = R0 := by rw [← HR0.out]; unfold hldB; (try rw [Hz1.out]); all_goals first | rfl | simp
    subst e0
    go_wp2
    first | go_ret | go_ret2
    exact ⟨by first | rfl | simp, hb0⟩
  · have c2_0 : U2.cell? ⟨w.heap.size + 1, 0, none⟩ = some (.int .u64 (wd0 x)) := k2.cell 0
    have c2_1 : U2.cell? ⟨w.heap.size + 1, 1, none⟩ = some (.int .u64 (wd1 x)) := k2.cell 1; have c2_2 : U2.cell? ⟨w.heap.size + 1, 2, none⟩ = some (.int .u64 (wd2 x)) := k2.cell 2; have c2_3 : U2.cell? ⟨w.heap.size + 1, 3, none⟩ = some (.int .u64 (wd3 x)) := k2.cell 3; have c2_4 : U2.cell? ⟨w.heap.size + 1, 4, none⟩ = some (.int .u64 (wd0 y)) := k2.cell 4; have c2_5 : U2.cell? ⟨w.heap.size + 1, 5, none⟩ = some (.int .u64 (wd1 y)) := k2.cell 5; have c2_6 : U2.cell? ⟨w.heap.size + 1, 6, none⟩ = some (.int .u64 (wd2 y)) := k2.cell 6
    have c2_7 : U2.cell? ⟨w.heap.size + 1, 7, none⟩ = some (.int .u64 (wd3 y)) := k2.cell 7; have c2_8 : U2.cell? ⟨w.heap.size + 1, 8, none⟩ = some (.int .u64 (wd0 v)) := k2.cell 8; have c2_9 : U2.cell? ⟨w.heap.size + 1, 9, none⟩ = some (.int .u64 (wd1 v)) := k2.cell 9; have c2_10 : U2.cell? ⟨w.heap.size + 1, 10, none⟩ = some (.int .u64 (wd2 v)) := k2.cell 10; have c2_11 : U2.cell? ⟨w.heap.size + 1, 11, none⟩ = some (.int .u64 (wd3 v)) := k2.cell 11; have l2 := k2.lt
    go_wp2_with fail
    clear c2_0 c2_1 c2_2 c2_3 c2_4 c2_5 c2_6 c2_7 c2_8 c2_9 c2_10 c2_11 l2
    obtain ⟨z2, hz2⟩ : ∃ o_o : Bool, spR x y v = o_o := ⟨_, rfl⟩
    have Hz2 := Lib.hid hz2; clear hz2
    refine (SpRight_is x y v z2 Hz2.out _ix _iy _iv  _).mono ?_
    rintro e U3 ⟨rfl, hn⟩
    replace k1 := k1.of hn; replace k2 := k2.of hn
    replace hb0 := hb0.trans (hn.mono hb0.size)
    clear hn
    cases z2
    · have e0 : false = R0 := by rw [← HR0.out]; unfold hldB; (try rw [Hz1.out]); (try rw [Hz2.out]); all_goals first | rfl | simp
      subst e0
      go_wp2
      first | go_ret | go_ret2
      exact ⟨by first | rfl | simp, hb0⟩
    · have c1_0 : U3.cell? ⟨w.heap.size, 0, none⟩ = some (.int .i64 ax) := k1.cell 0
      have c1_1 : U3.cell? ⟨w.heap.size, 1, none⟩ = some (.int .i64 ay) := k1.cell 1; have c1_2 : U3.cell? ⟨w.heap.size, 2, none⟩ = some (.int .i64 bx) := k1.cell 2; have c1_3 : U3.cell? ⟨w.heap.size, 3, none⟩ = some (.int .i64 b_y) := k1.cell 3; have l1 := k1.lt; obtain ⟨c2_0, c2_1, c2_2, c2_3, c2_4, c2_5, c2_6, c2_7, c2_8, c2_9, c2_10, c2_11⟩ := cel12 k2; have l2 := k2.lt
      go_wp2_with fail
      clear c1_0 c1_1 c1_2 c1_3 l1 c2_0 c2_1 c2_2 c2_3 c2_4 c2_5 c2_6 c2_7 c2_8 c2_9 c2_10 c2_11 l2
      obtain ⟨r3, hr3⟩ : ∃ o_o : Int, sde ax ay bx b_y x y v = o_o := ⟨_, rfl⟩
      have Hr3 := Lib.hid hr3; clear hr3
      refine (crside_is ax ay bx b_y x y v r3 Hr3.out _iax _iay _ibx _ib_y _ix _iy _iv  _).mono ?_
      rintro e U4 ⟨rfl, hn⟩
      replace k1 := k1.of hn; replace k2 := k2.of hn
      replace hb0 := hb0.trans (hn.mono hb0.size)
      clear hn
      obtain ⟨z4, hz4⟩ : ∃ o_o : Bool, (r3 == 0) = o_o := ⟨_, rfl⟩
      cases z4
      · have nz4 : ¬ r3 = 0 := by simpa using hz4
        have e0 : false = R0 := by rw [← HR0.out]; unfold hldB; (try rw [Hz1.out]); (try rw [Hz2.out]); (try rw [Hr3.out]); (try rw [hz4]); all_goals first | rfl | simp
        subst e0
        go_wp2
        first | go_ret | go_ret2
        exact ⟨by first | rfl | simp, hb0⟩
      · obtain rfl : r3 = 0 := by simpa using hz4
        clear hz4; have c1_0 : U4.cell? ⟨w.heap.size, 0, none⟩ = some (.int .i64 ax) := k1.cell 0; have c1_1 : U4.cell? ⟨w.heap.size, 1, none⟩ = some (.int .i64 ay) := k1.cell 1; have c1_2 : U4.cell? ⟨w.heap.size, 2, none⟩ = some (.int .i64 bx) := k1.cell 2; have c1_3 : U4.cell? ⟨w.heap.size, 3, none⟩ = some (.int .i64 b_y) := k1.cell 3; have l1 := k1.lt
        go_wp2_with fail
        clear c1_0 c1_1 c1_2 c1_3 l1
        obtain ⟨r5, hr5⟩ : ∃ o_o : Int, lwx ax ay bx b_y = o_o := ⟨_, rfl⟩
        have Hr5 := Lib.hid hr5; clear hr5
        obtain ⟨r6, hr6⟩ : ∃ o_o : Int, lwy ax ay bx b_y = o_o := ⟨_, rfl⟩
        have Hr6 := Lib.hid hr6; clear hr6
        obtain ⟨r7, hr7⟩ : ∃ o_o : Int, hgx ax ay bx b_y = o_o := ⟨_, rfl⟩
        have Hr7 := Lib.hid hr7; clear hr7
        obtain ⟨r8, hr8⟩ : ∃ o_o : Int, hgy ax ay bx b_y = o_o := ⟨_, rfl⟩
        have Hr8 := Lib.hid hr8; clear hr8
        refine (Ends_is ax ay bx b_y r5 r6 r7 r8 Hr5.out Hr6.out Hr7.out Hr8.out _iax _iay _ibx _ib_y  _).mono ?_
        rintro e U5 ⟨rfl, hn⟩
        clear k1; replace k2 := k2.of hn
        replace hb0 := hb0.trans (hn.mono hb0.size)
        clear hn
        go_wp2_with fail
        first | refine calls_w ?_ | refine name_world ?_ | refine list_world ?_ | refine post_world ?_
        intro V6 hV6
        have D1 := Lib.hid k2.lt; have D2 := Lib.hid hb0.size
        have hn : Below U5.heap.size U5 V6 := by rw [hV6]; exact below_a2 _ _ _
        have nk2 := k2.of hn
        have nhb0 := hb0.trans (hn.mono hb0.size)
        clear hn
        have k3 : Blk V6 U5.heap.size #[.int .i64 r5, .int .i64 r6] 44 := by rw [hV6]; exact ((Blk.new _ _ _).alloc _)
        have k4 : Blk V6 (U5.heap.size + 1) #[.int .i64 r7, .int .i64 r8] 44 := by rw [hV6]; exact (Blk.new1 _ _ _ _)
        clear k2; clear hb0; clear hV6; have k2 := nk2; clear nk2; have hb0 := nhb0; clear nhb0
        obtain ⟨r9, hr9⟩ : ∃ o_o : Int, atx r5 r6 = o_o := ⟨_, rfl⟩
        have Hr9 := Lib.hid hr9; clear hr9
        obtain ⟨r10, hr10⟩ : ∃ o_o : Int, aty r5 r6 = o_o := ⟨_, rfl⟩
        have Hr10 := Lib.hid hr10; clear hr10
        obtain ⟨r11, hr11⟩ : ∃ o_o : Int, atw r5 r6 = o_o := ⟨_, rfl⟩
        have Hr11 := Lib.hid hr11; clear hr11
        obtain ⟨r12, hr12⟩ : ∃ o_o : Int, spC r9 r10 r11 x y v = o_o := ⟨_, rfl⟩
        have Hr12 := Lib.hid hr12; clear hr12
        obtain ⟨z13, hz13⟩ : ∃ o_o : Bool, decide (r12 ≤ 0) = o_o := ⟨_, rfl⟩
        cases z13
        · have c2_0 : V6.cell? ⟨w.heap.size + 1, 0, none⟩ = some (.int .u64 (wd0 x)) := k2.cell 0
          have c2_1 : V6.cell? ⟨w.heap.size + 1, 1, none⟩ = some (.int .u64 (wd1 x)) := k2.cell 1; have c2_2 : V6.cell? ⟨w.heap.size + 1, 2, none⟩ = some (.int .u64 (wd2 x)) := k2.cell 2; have c2_3 : V6.cell? ⟨w.heap.size + 1, 3, none⟩ = some (.int .u64 (wd3 x)) := k2.cell 3; have c2_4 : V6.cell? ⟨w.heap.size + 1, 4, none⟩ = some (.int .u64 (wd0 y)) := k2.cell 4; have c2_5 : V6.cell? ⟨w.heap.size + 1, 5, none⟩ = some (.int .u64 (wd1 y)) := k2.cell 5; have c2_6 : V6.cell? ⟨w.heap.size + 1, 6, none⟩ = some (.int .u64 (wd2 y)) := k2.cell 6
          have c2_7 : V6.cell? ⟨w.heap.size + 1, 7, none⟩ = some (.int .u64 (wd3 y)) := k2.cell 7; have c2_8 : V6.cell? ⟨w.heap.size + 1, 8, none⟩ = some (.int .u64 (wd0 v)) := k2.cell 8; have c2_9 : V6.cell? ⟨w.heap.size + 1, 9, none⟩ = some (.int .u64 (wd1 v)) := k2.cell 9; have c2_10 : V6.cell? ⟨w.heap.size + 1, 10, none⟩ = some (.int .u64 (wd2 v)) := k2.cell 10; have c2_11 : V6.cell? ⟨w.heap.size + 1, 11, none⟩ = some (.int .u64 (wd3 v)) := k2.cell 11; have l2 := k2.lt; have c3_0 : V6.cell? ⟨U5.heap.size, 0, none⟩ = some (.int .i64 r5) := k3.cell 0
          have c3_1 : V6.cell? ⟨U5.heap.size, 1, none⟩ = some (.int .i64 r6) := k3.cell 1; have l3 := k3.lt; have Kk2 := Lib.hid k2; clear k2; have Kk3 := Lib.hid k3; clear k3; have Kk4 := Lib.hid k4; clear k4
          refine wp_region_up V6.heap.size 9 [(true, 0), (true, 2), (false, 1), (false, 3), (true, 4), (true, 5), (true, 6), (true, 7), (false, 8)] (by kernel_rfl) (by kernel_rfl) (fun _ _ d _ _ h => by cases d <;> exact h) ?_
          have hb : Below V6.heap.size V6 V6.drew := (Below.refl _ _).drew
          iterate 2
            refine wpS_takeL rfl rfl ?_
            go_big_quiet_step (rfl)
            refine wpQuiet_nil ?_
          refine wpS_doL rfl ?_
          intro K hK
          go_wp2_with ((go_at_call 11; (with_reducible refine (crAt_is r5 r6 r9 r10 r11 Hr9.out Hr10.out Hr11.out (Hr5.out ▸ lwx_in ax ay bx b_y _iax _iay _ibx _ib_y) (Hr6.out ▸ lwy_in ax ay bx b_y _iax _iay _ibx _ib_y)  _).mono ?_); rintro e w2 ⟨rfl, hn⟩))
          replace hb := hb.trans (hn.mono hb.size)
          refine hK.out _ _ (up_iff.2 hb) ?_
          clear hK K; clear hn
          refine wpS_doL rfl ?_
          intro K hK
          go_wp2_with ((go_at_call 9; (with_reducible refine (SpCmp_is r9 r10 r11 x y v r12 Hr12.out (Hr9.out ▸ atx_in r5 r6 (Hr5.out ▸ lwx_in ax ay bx b_y _iax _iay _ibx _ib_y) (Hr6.out ▸ lwy_in ax ay bx b_y _iax _iay _ibx _ib_y)) (Hr10.out ▸ aty_in r5 r6 (Hr5.out ▸ lwx_in ax ay bx b_y _iax _iay _ibx _ib_y) (Hr6.out ▸ lwy_in ax ay bx b_y _iax _iay _ibx _ib_y)) (Hr11.out ▸ atw_in r5 r6 (Hr5.out ▸ lwx_in ax ay bx b_y _iax _iay _ibx _ib_y) (Hr6.out ▸ lwy_in ax ay bx b_y _iax _iay _ibx _ib_y)) _ix _iy _iv  _).mono ?_); rintro e w2 ⟨rfl, hn⟩))
          replace hb := hb.trans (hn.mono hb.size)
          refine hK.out _ _ (up_iff.2 hb) ?_
          clear hK K; clear hn
          iterate 4
            refine wpS_takeL rfl rfl ?_
            go_big_quiet_step (rfl)
            refine wpQuiet_nil ?_
          refine wpS_doL rfl ?_
          intro K hK
          go_wp2_with ((go_at_call 11; (with_reducible refine (crAt_is r5 r6 r9 r10 r11 Hr9.out Hr10.out Hr11.out (Hr5.out ▸ lwx_in ax ay bx b_y _iax _iay _ibx _ib_y) (Hr6.out ▸ lwy_in ax ay bx b_y _iax _iay _ibx _ib_y)  _).mono ?_); rintro e w2 ⟨rfl, hn⟩))
          try replace hb := hb.trans (hn.mono hb.size)
          refine hK.out _ _ (up_iff.2 hb) ?_
          clear hK K
          try clear hn
          refine wpS_nil ?_
          simp only [List.drop_succ_cons, List.drop_zero]
          first | refine calls_w ?_ | refine name_world ?_ | refine list_world ?_ | refine post_world ?_
          intro U7 hU7
          first | subst hU7 | (rw [← hU7] at hb; clear hU7)
          clear c2_0 c2_1 c2_2 c2_3 c2_4 c2_5 c2_6 c2_7 c2_8 c2_9 c2_10 c2_11 l2 c3_0 c3_1 l3; have k2 := Kk2.out.of hb; clear Kk2; have k3 := Kk3.out.of hb; clear Kk3; have k4 := Kk4.out.of hb; clear Kk4
          replace hb0 := hb0.trans (hb.mono hb0.size)
          clear hb
          have e0 : false = R0 := by rw [← HR0.out]; unfold hldB; (try rw [Hz1.out]); (try rw [Hz2.out]); (try rw [Hr3.out]); (try rw [Hr5.out]); (try rw [Hr6.out]); (try rw [Hr7.out]); (try rw [Hr8.out]); (try rw [Hr9.out]); (try rw [Hr10.out]); (try rw [Hr11.out]); (try rw [Hr12.out]); (try rw [hz13]); all_goals first | rfl | simp
          subst e0
          go_wp2
          first | go_ret | go_ret2
          exact ⟨by first | rfl | simp, hb0⟩
        · obtain ⟨r14, hr14⟩ : ∃ o_o : Int, atx r7 r8 = o_o := ⟨_, rfl⟩
          have Hr14 := Lib.hid hr14; clear hr14
          obtain ⟨r15, hr15⟩ : ∃ o_o : Int, aty r7 r8 = o_o := ⟨_, rfl⟩
          have Hr15 := Lib.hid hr15; clear hr15
          obtain ⟨r16, hr16⟩ : ∃ o_o : Int, atw r7 r8 = o_o := ⟨_, rfl⟩
          have Hr16 := Lib.hid hr16; clear hr16; obtain ⟨c2_0, c2_1, c2_2, c2_3, c2_4, c2_5, c2_6, c2_7, c2_8, c2_9, c2_10, c2_11⟩ := cel12 k2; have l2 := k2.lt; have c3_0 : V6.cell? ⟨U5.heap.size, 0, none⟩ = some (.int .i64 r5) := k3.cell 0; have c3_1 : V6.cell? ⟨U5.heap.size, 1, none⟩ = some (.int .i64 r6) := k3.cell 1; have l3 := k3.lt; have c4_0 : V6.cell? ⟨(U5.heap.size + 1), 0, none⟩ = some (.int .i64 r7) := k4.cell 0; have c4_1 : V6.cell? ⟨(U5.heap.size + 1), 1, none⟩ = some (.int .i64 r8) := k4.cell 1; have l4 := k4.lt; have Kk2 := Lib.hid k2; clear k2; have Kk3 := Lib.hid k3; clear k3
          have Kk4 := Lib.hid k4; clear k4
          refine wp_region_up V6.heap.size 9 [(true, 0), (true, 2), (false, 1), (false, 3), (true, 4), (true, 5), (true, 6), (true, 7), (false, 8)] (by kernel_rfl) (by kernel_rfl) (fun _ _ d _ _ h => by cases d <;> exact h) ?_
          have hb : Below V6.heap.size V6 V6.drew := (Below.refl _ _).drew
          iterate 2
            refine wpS_takeL rfl rfl ?_
            go_big_quiet_step (rfl)
            refine wpQuiet_nil ?_
          refine wpS_doL rfl ?_
          intro K hK
          go_wp2_with ((first | (go_at_call 11; (with_reducible refine (crAt_is r5 r6 r9 r10 r11 Hr9.out Hr10.out Hr11.out (Hr5.out ▸ lwx_in ax ay bx b_y _iax _iay _ibx _ib_y) (Hr6.out ▸ lwy_in ax ay bx b_y _iax _iay _ibx _ib_y)  _).mono ?_); rintro e w2 ⟨rfl, hn⟩) | (go_at_call 11; (with_reducible refine (crAt_is r7 r8 r14 r15 r16 Hr14.out Hr15.out Hr16.out (Hr7.out ▸ hgx_in ax ay bx b_y _iax _iay _ibx _ib_y) (Hr8.out ▸ hgy_in ax ay bx b_y _iax _iay _ibx _ib_y)  _).mono ?_); rintro e w2 ⟨rfl, hn⟩)))
          replace hb := hb.trans (hn.mono hb.size)
          refine hK.out _ _ (up_iff.2 hb) ?_
          clear hK K; clear hn
          refine wpS_doL rfl ?_
          intro K hK
          go_wp2_with ((go_at_call 9; (with_reducible refine (SpCmp_is r9 r10 r11 x y v r12 Hr12.out (Hr9.out ▸ atx_in r5 r6 (Hr5.out ▸ lwx_in ax ay bx b_y _iax _iay _ibx _ib_y) (Hr6.out ▸ lwy_in ax ay bx b_y _iax _iay _ibx _ib_y)) (Hr10.out ▸ aty_in r5 r6 (Hr5.out ▸ lwx_in ax ay bx b_y _iax _iay _ibx _ib_y) (Hr6.out ▸ lwy_in ax ay bx b_y _iax _iay _ibx _ib_y)) (Hr11.out ▸ atw_in r5 r6 (Hr5.out ▸ lwx_in ax ay bx b_y _iax _iay _ibx _ib_y) (Hr6.out ▸ lwy_in ax ay bx b_y _iax _iay _ibx _ib_y)) _ix _iy _iv  _).mono ?_); rintro e w2 ⟨rfl, hn⟩))
          replace hb := hb.trans (hn.mono hb.size)
          refine hK.out _ _ (up_iff.2 hb) ?_
          clear hK K; clear hn
          iterate 4
            refine wpS_takeL rfl rfl ?_
            go_big_quiet_step (rfl)
            refine wpQuiet_nil ?_
          refine wpS_doL rfl ?_
          intro K hK
          go_wp2_with ((first | (go_at_call 11; (with_reducible refine (crAt_is r5 r6 r9 r10 r11 Hr9.out Hr10.out Hr11.out (Hr5.out ▸ lwx_in ax ay bx b_y _iax _iay _ibx _ib_y) (Hr6.out ▸ lwy_in ax ay bx b_y _iax _iay _ibx _ib_y)  _).mono ?_); rintro e w2 ⟨rfl, hn⟩) | (go_at_call 11; (with_reducible refine (crAt_is r7 r8 r14 r15 r16 Hr14.out Hr15.out Hr16.out (Hr7.out ▸ hgx_in ax ay bx b_y _iax _iay _ibx _ib_y) (Hr8.out ▸ hgy_in ax ay bx b_y _iax _iay _ibx _ib_y)  _).mono ?_); rintro e w2 ⟨rfl, hn⟩)))
          try replace hb := hb.trans (hn.mono hb.size)
          refine hK.out _ _ (up_iff.2 hb) ?_
          clear hK K
          try clear hn
          refine wpS_nil ?_
          simp only [List.drop_succ_cons, List.drop_zero]
          first | refine calls_w ?_ | refine name_world ?_ | refine list_world ?_ | refine post_world ?_
          intro U8 hU8
          first | subst hU8 | (rw [← hU8] at hb; clear hU8)
          clear c2_0 c2_1 c2_2 c2_3 c2_4 c2_5 c2_6 c2_7 c2_8 c2_9 c2_10 c2_11 l2 c3_0 c3_1 l3 c4_0 c4_1 l4; have k2 := Kk2.out.of hb; clear Kk2; have k3 := Kk3.out.of hb; clear Kk3; have k4 := Kk4.out.of hb; clear Kk4
          replace hb0 := hb0.trans (hb.mono hb0.size)
          clear hb
          go_wp2_with fail
          obtain ⟨r17, hr17⟩ : ∃ o_o : Int, spC x y v r14 r15 r16 = o_o := ⟨_, rfl⟩
          have Hr17 := Lib.hid hr17; clear hr17
          refine (SpCmp_is x y v r14 r15 r16 r17 Hr17.out _ix _iy _iv (Hr14.out ▸ atx_in r7 r8 (Hr7.out ▸ hgx_in ax ay bx b_y _iax _iay _ibx _ib_y) (Hr8.out ▸ hgy_in ax ay bx b_y _iax _iay _ibx _ib_y)) (Hr15.out ▸ aty_in r7 r8 (Hr7.out ▸ hgx_in ax ay bx b_y _iax _iay _ibx _ib_y) (Hr8.out ▸ hgy_in ax ay bx b_y _iax _iay _ibx _ib_y)) (Hr16.out ▸ atw_in r7 r8 (Hr7.out ▸ hgx_in ax ay bx b_y _iax _iay _ibx _ib_y) (Hr8.out ▸ hgy_in ax ay bx b_y _iax _iay _ibx _ib_y))  _).mono ?_
          rintro e U9 ⟨rfl, hn⟩
          clear k2 k3 k4
          replace hb0 := hb0.trans (hn.mono hb0.size)
          clear hn
          have e0 : decide (r17 ≤ 0) = R0 := by rw [← HR0.out]; unfold hldB; (try rw [Hz1.out]); (try rw [Hz2.out]); (try rw [Hr3.out]); (try rw [Hr5.out]); (try rw [Hr6.out]); (try rw [Hr7.out]); (try rw [Hr8.out]); (try rw [Hr9.out]); (try rw [Hr10.out]); (try rw [Hr11.out]); (try rw [Hr12.out]); (try rw [hz13]); (try rw [Hr14.out]); (try rw [Hr15.out]); (try rw [Hr16.out]); (try rw [Hr17.out]); all_goals first | rfl | simp
          subst e0
          go_wp2
          first | go_ret | go_ret2
          exact ⟨by first | rfl | simp, hb0⟩

def slp (ax : Int) (ay : Int) (bx : Int) (b_y : Int) (cx : Int) (cy : Int) (dx : Int) (dy : Int) : Int := (bif (sgR ax ay bx b_y) then (bif (sgR cx cy dx dy) then ((subv (mulv (wyx cx cy dx dy) (wyy ax ay bx b_y)) (mulv (wyy cx cy dx dy) (wyx ax ay bx b_y))).sign) else 0) else 0)

set_option maxRecDepth 100000 in
set_option maxHeartbeats 4000000 in

theorem Slope_is (ax : Int) (ay : Int) (bx : Int) (b_y : Int) (cx : Int) (cy : Int) (dx : Int) (dy : Int)  (R0 : Int) (hR0 : slp ax ay bx b_y cx cy dx dy = R0) (_iax : In64 ax) (_iay : In64 ay) (_ibx : In64 bx) (_ib_y : In64 b_y) (_icx : In64 cx) (_icy : In64 cy) (_idx : In64 dx) (_idy : In64 dy)  (w : World)  :
    Calls Try.prog 28 #[.agg #[.int .i64 ax, .int .i64 ay, .int .i64 bx, .int .i64 b_y], .agg #[.int .i64 cx, .int .i64 cy, .int .i64 dx, .int .i64 dy]] w fun e w' => e = .returned (.int .i64 R0) ∧ Below w.heap.size w w' := by

  have HR0 := Lib.hid hR0; clear hR0
  go_enter Try.func28, Try.ntmps28
  go_wp2_with fail
  first | refine calls_w ?_ | refine name_world ?_ | refine list_world ?_ | refine post_world ?_
  intro V1 hV1
  have hn : Below w.heap.size w V1 := by rw [hV1]; exact below_a2 _ _ _
  have nhb0 := hn
  have k1 : Blk V1 w.heap.size #[.int .i64 ax, .int .i64 ay, .int .i64 bx, .int .i64 b_y] 46 := by rw [hV1]; exact ((Blk.new _ _ _).alloc _)
  have k2 : Blk V1 (w.heap.size + 1) #[.int .i64 cx, .int .i64 cy, .int .i64 dx, .int .i64 dy] 46 := by rw [hV1]; exact (Blk.new1 _ _ _ _)
  clear hV1; have hb0 := nhb0; clear nhb0
  obtain ⟨z1, hz1⟩ : ∃ o_o : Bool, sgR ax ay bx b_y = o_o := ⟨_, rfl⟩
  have Hz1 := Lib.hid hz1; clear hz1
  refine (SegRight_is ax ay bx b_y z1 Hz1.out _iax _iay _ibx _ib_y  _).mono ?_
  rintro e U2 ⟨rfl, hn⟩
  replace k1 := k1.of hn; replace k2 := k2.of hn
  replace hb0 := hb0.trans (hn.mono hb0.size)
  clear hn
  cases z1
  · have e0 : 0 = R0 := by rw [← HR0.out]; unfold slp; (try rw [Hz1.out]); all_goals first | rfl | simp
    subst e0
    go_wp2
    first | go_ret | go_ret2
    exact ⟨by first | rfl | simp, hb0⟩
  · have c2_0 : U2.cell? ⟨w.heap.size + 1, 0, none⟩ = some (.int .i64 cx) := k2.cell 0
    have c2_1 : U2.cell? ⟨w.heap.size + 1, 1, none⟩ = some (.int .i64 cy) := k2.cell 1; have c2_2 : U2.cell? ⟨w.heap.size + 1, 2, none⟩ = some (.int .i64 dx) := k2.cell 2; have c2_3 : U2.cell? ⟨w.heap.size + 1, 3, none⟩ = some (.int .i64 dy) := k2.cell 3; have l2 := k2.lt
    go_wp2_with fail
    clear c2_0 c2_1 c2_2 c2_3 l2
    obtain ⟨z2, hz2⟩ : ∃ o_o : Bool, sgR cx cy dx dy = o_o := ⟨_, rfl⟩
    have Hz2 := Lib.hid hz2; clear hz2
    refine (SegRight_is cx cy dx dy z2 Hz2.out _icx _icy _idx _idy  _).mono ?_
    rintro e U3 ⟨rfl, hn⟩
    replace k1 := k1.of hn; replace k2 := k2.of hn
    replace hb0 := hb0.trans (hn.mono hb0.size)
    clear hn
    cases z2
    · have e0 : 0 = R0 := by rw [← HR0.out]; unfold slp; (try rw [Hz1.out]); (try rw [Hz2.out]); all_goals first | rfl | simp
      subst e0
      go_wp2
      first | go_ret | go_ret2
      exact ⟨by first | rfl | simp, hb0⟩
    · have c1_0 : U3.cell? ⟨w.heap.size, 0, none⟩ = some (.int .i64 ax) := k1.cell 0
      have c1_1 : U3.cell? ⟨w.heap.size, 1, none⟩ = some (.int .i64 ay) := k1.cell 1; have c1_2 : U3.cell? ⟨w.heap.size, 2, none⟩ = some (.int .i64 bx) := k1.cell 2; have c1_3 : U3.cell? ⟨w.heap.size, 3, none⟩ = some (.int .i64 b_y) := k1.cell 3; have l1 := k1.lt
      go_wp2_with fail
      clear c1_0 c1_1 c1_2 c1_3 l1
      obtain ⟨r3, hr3⟩ : ∃ o_o : Int, wyx ax ay bx b_y = o_o := ⟨_, rfl⟩
      have Hr3 := Lib.hid hr3; clear hr3
      obtain ⟨r4, hr4⟩ : ∃ o_o : Int, wyy ax ay bx b_y = o_o := ⟨_, rfl⟩
      have Hr4 := Lib.hid hr4; clear hr4
      refine (crway_is ax ay bx b_y r3 r4 Hr3.out Hr4.out _iax _iay _ibx _ib_y  _).mono ?_
      rintro e U4 ⟨rfl, hn⟩
      clear k1; replace k2 := k2.of hn
      replace hb0 := hb0.trans (hn.mono hb0.size)
      clear hn; have c2_0 : U4.cell? ⟨w.heap.size + 1, 0, none⟩ = some (.int .i64 cx) := k2.cell 0; have c2_1 : U4.cell? ⟨w.heap.size + 1, 1, none⟩ = some (.int .i64 cy) := k2.cell 1; have c2_2 : U4.cell? ⟨w.heap.size + 1, 2, none⟩ = some (.int .i64 dx) := k2.cell 2; have c2_3 : U4.cell? ⟨w.heap.size + 1, 3, none⟩ = some (.int .i64 dy) := k2.cell 3; have l2 := k2.lt
      have l2_0 : w.heap.size < U4.heap.size := by have := k2.lt; omega
      go_wp2_with fail
      clear c2_0 c2_1 c2_2 c2_3 l2 l2_0
      first | refine calls_w ?_ | refine name_world ?_ | refine list_world ?_ | refine post_world ?_
      intro V5 hV5
      clear k2; have D1 := Lib.hid hb0.size
      have hn : Below U4.heap.size U4 V5 := by rw [hV5]; exact below_a2 _ _ _
      have nhb0 := hb0.trans (hn.mono hb0.size)
      clear hn
      have k3 : Blk V5 U4.heap.size #[.int .u64 (wd0 r3), .int .u64 (wd1 r3), .int .u64 (wd2 r3), .int .u64 (wd3 r3)] 34 := by rw [hV5]; exact ((Blk.new _ _ _).alloc _)
      have k4 : Blk V5 (U4.heap.size + 1) #[.int .u64 (wd0 r4), .int .u64 (wd1 r4), .int .u64 (wd2 r4), .int .u64 (wd3 r4)] 34 := by rw [hV5]; exact (Blk.new1 _ _ _ _)
      clear hb0; clear hV5; have hb0 := nhb0; clear nhb0
      obtain ⟨r5, hr5⟩ : ∃ o_o : Int, wyx cx cy dx dy = o_o := ⟨_, rfl⟩
      have Hr5 := Lib.hid hr5; clear hr5
      obtain ⟨r6, hr6⟩ : ∃ o_o : Int, wyy cx cy dx dy = o_o := ⟨_, rfl⟩
      have Hr6 := Lib.hid hr6; clear hr6
      refine (crway_is cx cy dx dy r5 r6 Hr5.out Hr6.out _icx _icy _idx _idy  _).mono ?_
      rintro e U6 ⟨rfl, hn⟩
      replace k3 := k3.of hn; replace k4 := k4.of hn
      replace hb0 := hb0.trans (hn.mono hb0.size)
      clear hn
      go_wp2_with fail
      first | refine calls_w ?_ | refine name_world ?_ | refine list_world ?_ | refine post_world ?_
      intro V7 hV7
      have D2 := Lib.hid k3.lt; have D3 := Lib.hid k4.lt; have D4 := Lib.hid hb0.size
      have hn : Below U6.heap.size U6 V7 := by rw [hV7]; exact below_a2 _ _ _
      have nk3 := k3.of hn; have nk4 := k4.of hn
      have nhb0 := hb0.trans (hn.mono hb0.size)
      clear hn
      have k5 : Blk V7 U6.heap.size #[.int .u64 (wd0 r5), .int .u64 (wd1 r5), .int .u64 (wd2 r5), .int .u64 (wd3 r5)] 34 := by rw [hV7]; exact ((Blk.new _ _ _).alloc _)
      have k6 : Blk V7 (U6.heap.size + 1) #[.int .u64 (wd0 r6), .int .u64 (wd1 r6), .int .u64 (wd2 r6), .int .u64 (wd3 r6)] 34 := by rw [hV7]; exact (Blk.new1 _ _ _ _)
      clear k3 k4; clear hb0; clear hV7; have k3 := nk3; clear nk3; have k4 := nk4; clear nk4; have hb0 := nhb0; clear nhb0
      obtain ⟨r7, hr7⟩ : ∃ o_o : Int, mulv r5 r4 = o_o := ⟨_, rfl⟩
      have Hr7 := Lib.hid hr7; clear hr7; have c3_0 : V7.cell? ⟨U4.heap.size, 0, none⟩ = some (.int .u64 (wd0 r3)) := k3.cell 0; have c3_1 : V7.cell? ⟨U4.heap.size, 1, none⟩ = some (.int .u64 (wd1 r3)) := k3.cell 1; have c3_2 : V7.cell? ⟨U4.heap.size, 2, none⟩ = some (.int .u64 (wd2 r3)) := k3.cell 2; have c3_3 : V7.cell? ⟨U4.heap.size, 3, none⟩ = some (.int .u64 (wd3 r3)) := k3.cell 3; have l3 := k3.lt; have c4_0 : V7.cell? ⟨(U4.heap.size + 1), 0, none⟩ = some (.int .u64 (wd0 r4)) := k4.cell 0; have c4_1 : V7.cell? ⟨(U4.heap.size + 1), 1, none⟩ = some (.int .u64 (wd1 r4)) := k4.cell 1
      have c4_2 : V7.cell? ⟨(U4.heap.size + 1), 2, none⟩ = some (.int .u64 (wd2 r4)) := k4.cell 2; have c4_3 : V7.cell? ⟨(U4.heap.size + 1), 3, none⟩ = some (.int .u64 (wd3 r4)) := k4.cell 3; have l4 := k4.lt; have c5_0 : V7.cell? ⟨U6.heap.size, 0, none⟩ = some (.int .u64 (wd0 r5)) := k5.cell 0; have c5_1 : V7.cell? ⟨U6.heap.size, 1, none⟩ = some (.int .u64 (wd1 r5)) := k5.cell 1; have c5_2 : V7.cell? ⟨U6.heap.size, 2, none⟩ = some (.int .u64 (wd2 r5)) := k5.cell 2; have c5_3 : V7.cell? ⟨U6.heap.size, 3, none⟩ = some (.int .u64 (wd3 r5)) := k5.cell 3; have l5 := k5.lt
      have c6_0 : V7.cell? ⟨(U6.heap.size + 1), 0, none⟩ = some (.int .u64 (wd0 r6)) := k6.cell 0; have c6_1 : V7.cell? ⟨(U6.heap.size + 1), 1, none⟩ = some (.int .u64 (wd1 r6)) := k6.cell 1; have c6_2 : V7.cell? ⟨(U6.heap.size + 1), 2, none⟩ = some (.int .u64 (wd2 r6)) := k6.cell 2; have c6_3 : V7.cell? ⟨(U6.heap.size + 1), 3, none⟩ = some (.int .u64 (wd3 r6)) := k6.cell 3; have l6 := k6.lt; have Kk3 := Lib.hid k3; clear k3; have Kk4 := Lib.hid k4; clear k4; have Kk5 := Lib.hid k5; clear k5; have Kk6 := Lib.hid k6; clear k6
      refine wp_region_up V7.heap.size 5 [(true, 0), (true, 1), (true, 3), (true, 4), (false, 2)] (by kernel_rfl) (by kernel_rfl) (fun _ _ d _ _ h => by cases d <;> exact h) ?_
      have hb : Below V7.heap.size V7 V7.drew := (Below.refl _ _).drew
      iterate 4
        refine wpS_takeL rfl rfl ?_
        go_big_quiet_step (rfl)
        refine wpQuiet_nil ?_
      refine wpS_doL rfl ?_
      intro K hK
      go_wp2_with ((go_at_call 22; (with_reducible refine (crtimes_is r5 r4 r7 Hr7.out (Hr5.out ▸ wyx_in cx cy dx dy _icx _icy _idx _idy) (Hr4.out ▸ wyy_in ax ay bx b_y _iax _iay _ibx _ib_y)  _).mono ?_); rintro e w2 ⟨rfl, hn⟩))
      replace hb := hb.trans (hn.mono hb.size)
      refine hK.out _ _ (up_iff.2 hb) ?_
      clear hK K; clear hn
      refine wpS_nil ?_
      simp only [List.drop_succ_cons, List.drop_zero]
      first | refine calls_w ?_ | refine name_world ?_ | refine list_world ?_ | refine post_world ?_
      intro U8 hU8
      first | subst hU8 | (rw [← hU8] at hb; clear hU8)
      clear c3_0 c3_1 c3_2 c3_3 l3 c4_0 c4_1 c4_2 c4_3 l4 c5_0 c5_1 c5_2 c5_3 l5 c6_0 c6_1 c6_2 c6_3 l6; have k3 := Kk3.out.of hb; clear Kk3; have k4 := Kk4.out.of hb; clear Kk4; have k5 := Kk5.out.of hb; clear Kk5; have k6 := Kk6.out.of hb; clear Kk6
      replace hb0 := hb0.trans (hb.mono hb0.size)
      clear hb
      go_wp2_with fail
      obtain ⟨r8, hr8⟩ : ∃ o_o : Int, mulv r6 r3 = o_o := ⟨_, rfl⟩
      have Hr8 := Lib.hid hr8; clear hr8
      refine (crtimes_is r6 r3 r8 Hr8.out (Hr6.out ▸ wyy_in cx cy dx dy _icx _icy _idx _idy) (Hr3.out ▸ wyx_in ax ay bx b_y _iax _iay _ibx _ib_y)  _).mono ?_
      rintro e U9 ⟨rfl, hn⟩
      clear k3 k4 k5 k6
      replace hb0 := hb0.trans (hn.mono hb0.size)
      clear hn
      go_wp2_with fail
      obtain ⟨r9, hr9⟩ : ∃ o_o : Int, subv r7 r8 = o_o := ⟨_, rfl⟩
      have Hr9 := Lib.hid hr9; clear hr9
      refine (crless_is r7 r8 r9 Hr9.out (Hr7.out ▸ mulv_in r5 r4) (Hr8.out ▸ mulv_in r6 r3)  _).mono ?_
      rintro e U10 ⟨rfl, hn⟩
      replace hb0 := hb0.trans (hn.mono hb0.size)
      clear hn
      go_wp2_with fail
      obtain ⟨r10, hr10⟩ : ∃ o_o : Int, r9.sign = o_o := ⟨_, rfl⟩
      have Hr10 := Lib.hid hr10; clear hr10
      refine (Sign_v r9 r10 Hr10.out (Hr9.out ▸ subv_in r7 r8) _).mono ?_
      rintro e U11 ⟨rfl, hn⟩
      replace hb0 := hb0.trans (hn.mono hb0.size)
      clear hn
      have e0 : r10 = R0 := by rw [← HR0.out]; unfold slp; (try rw [Hz1.out]); (try rw [Hz2.out]); (try rw [Hr3.out]); (try rw [Hr4.out]); (try rw [Hr5.out]); (try rw [Hr6.out]); (try rw [Hr7.out]); (try rw [Hr8.out]); (try rw [Hr9.out]); (try rw [Hr10.out]); all_goals first | rfl | simp
      subst e0
      go_wp2
      first | go_ret | go_ret2
      exact ⟨by first | rfl | simp, hb0⟩
end Go.Proofs.Ytkaolhlmimalkaa

