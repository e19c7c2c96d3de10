/- My texts TrT, TrU, TrV, TrW, TrX, TrXb, TrY, TrZ, TrAa, TrAc, TrAd, TrAe, TrBp, TrBa, TrBb, TrBq, joined: what the last one needs of them. Conditions: as each lemma says. -/
import Derived.Test.YtdlpfiiakmhnlaaSTe2
import Derived.KernelRfl
import Derived.StillTail
import Derived.OrdersHeld
import Derived.Deep.Quiet
import Derived.Below
import Derived.WalkKit
import Derived.Test.YtdlpfiiakmhnlaaProg
import Derived.WalkSpells
import Derived.StillTactics
import Derived.Laws.Pointers
import Derived.Deep.RegionHeld3
import Derived.RowKit3
import Derived.Deep.QuietTactic
import Derived.BigQuiet
import Derived.BigRegion
import Derived.Lib.Hide
import Derived.WalkSmall
import Derived.Laws.BitsAllLaws
import Derived.IntWalk
import Derived.Deep.OwnRows
import Derived.Deep.LoopGhost
import Derived.Shelf.Bits.Mul64
import Derived.ProofKit
import Derived.OpenShut
import Derived.ShutString
import Derived.ChangeOld
import Derived.Lib.SmallJoins
import Derived.Laws.IdiomArrays
import Derived.Laws.CopyOwn
import Derived.Laws.AppendOwn
import Derived.Deep.DeepAppendRoom
import Derived.Lib.AppendZerosOnto
import Derived.Lib.Overlaps
import Derived.Deep.RegionLaw
import Derived.Shelf.RegionOpenPlain
import Derived.Deep.RegionWith
import Derived.Sort.LoopGhostIn
import Derived.RangeFuncNested
import Derived.RangeFuncBound
import Derived.RangeFuncCalls
import Derived.RangeFuncLeaves
import Derived.OwnWalk
import Derived.OwnWalkIn
import Derived.TacticsInMore
import Derived.LoopNIn
import Derived.LoopIn
import Derived.Deep.DeepFit
import Derived.Deep.DeepCutAuto
import Derived.Shelf.Abstract
import Derived.Shelf.RegionOpen
import Derived.Maps.OwnIn
import Derived.WalkMore
import Derived.Deep.SlicePairs
namespace Go.Proofs.Ytdlpfiiakmhnlaa
open Go.RowKit

def gT (X Y : Nat → Int) (a b c : Nat) : Int := (X b - X a) * (Y c - Y a) - (Y b - Y a) * (X c - X a)
section
variable {X Y : Nat → Int}
theorem gT_rot (a b c : Nat) : gT X Y b c a = gT X Y a b c := by unfold gT; grind
theorem gT_swap (a b c : Nat) : gT X Y b a c = -gT X Y a b c := by unfold gT; grind
theorem g_pos_of {x y : Int} (h : 0 < x) (k : 0 < x * y) : 0 < y := by
  rcases Int.lt_or_le 0 y with h1 | h1
  · exact h1
  · have := Int.mul_le_mul_of_nonneg_left h1 (Int.le_of_lt h); simp at this; omega
theorem g_nonneg_of {x y : Int} (h : 0 < x) (k : 0 ≤ x * y) : 0 ≤ y := by
  rcases Int.lt_or_le y 0 with h1 | h1
  · have := Int.mul_lt_mul_of_pos_left h1 h; simp at this; omega
  · exact h1
theorem g_zero_of {x y : Int} (h : x ≠ 0) (k : x * y = 0) : y = 0 := by
  rcases Int.mul_eq_zero.1 k with h1 | h1
  · exact absurd h1 h
  · exact h1
def gRis (X : Nat → Int) (N : Nat) : Prop := ∀ i j, i < j → j < N → X i < X j
/-- no point up to m lies to the right of the way from a to b, none upon it -/
def gE (X Y : Nat → Int) (m a b : Nat) : Prop := ∀ k, k ≤ m → 0 ≤ gT X Y a b k ∧ (gT X Y a b k = 0 → ¬ (a < k ∧ k < b) ∧ ¬ (b < k ∧ k < a))
theorem gT_pl (y x z p k : Nat) : gT X Y y x z * gT X Y x p k = gT X Y y x p * gT X Y x z k - gT X Y y x k * gT X Y x z p := by unfold gT; grind
theorem gT_end1 (a b : Nat) : gT X Y a b a = 0 := by unfold gT; grind
theorem gT_end2 (a b : Nat) : gT X Y a b b = 0 := by unfold gT; grind
theorem gT_xab (o a b c : Nat) : (X a - X o) * gT X Y o b c + (X b - X o) * gT X Y o c a + (X c - X o) * gT X Y o a b = 0 := by unfold gT; grind
/-- y, x, z on one line: the ways' turns agree up to the length -/
theorem gT_par {y x z k : Nat} (h : gT X Y y x z = 0) : (X z - X x) * gT X Y y x k = (X x - X y) * gT X Y x z k := by
  have : (X z - X x) * gT X Y y x k = (X x - X y) * gT X Y x z k + gT X Y y x z * (X k - X x) := by unfold gT; grind
  rw [h] at this; simpa using this
theorem g_mul_pos {a b : Int} (ha : 0 < a) (hb : 0 < b) : 0 < a * b := Int.mul_pos ha hb
/-- three neighbours on the hull on one line run on -/
theorem runs_on {N m y x z : Nat} (hX : gRis X N) (hm : m < N) (hy : y ≤ m) (hx : x ≤ m) (hz : z ≤ m) (n1 : y ≠ x) (n2 : x ≠ z) (n3 : y ≠ z) (e1 : gE X Y m y x) (e2 : gE X Y m x z) (h0 : gT X Y y x z = 0) :
    (y < x ∧ x < z) ∨ (z < x ∧ x < y) := by
  have a1 := (e1 z hz).2 h0
  have a2 := (e2 y hy).2 (by rw [gT_rot]; exact h0)
  omega
theorem same_sgn {N m y x z k : Nat} (hX : gRis X N) (hm : m < N) (hy : y ≤ m) (hx : x ≤ m) (hz : z ≤ m) (n1 : y ≠ x) (n2 : x ≠ z) (n3 : y ≠ z) (e1 : gE X Y m y x) (e2 : gE X Y m x z) (h0 : gT X Y y x z = 0) :
    (gT X Y y x k < 0 ↔ gT X Y x z k < 0) := by
  have hp := gT_par (k := k) h0
  rcases runs_on hX hm hy hx hz n1 n2 n3 e1 e2 h0 with ⟨h1, h2⟩ | ⟨h1, h2⟩
  · have q1 := hX y x h1 (by omega)
    have q2 := hX x z h2 (by omega)
    constructor
    · intro h
      have : 0 < (X z - X x) * -gT X Y y x k := g_mul_pos (by omega) (by omega)
      have : 0 < (X x - X y) * -gT X Y x z k := by rw [Int.mul_neg] at this ⊢; omega
      have := g_pos_of (by omega) this
      omega
    · intro h
      have : 0 < (X x - X y) * -gT X Y x z k := g_mul_pos (by omega) (by omega)
      have : 0 < (X z - X x) * -gT X Y y x k := by rw [Int.mul_neg] at this ⊢; omega
      have := g_pos_of (by omega) this
      omega
  · have q1 := hX z x h1 (by omega)
    have q2 := hX x y h2 (by omega)
    constructor
    · intro h
      have : 0 < (X x - X z) * -gT X Y y x k := g_mul_pos (by omega) (by omega)
      have : 0 < (X y - X x) * -gT X Y x z k := by grind
      have := g_pos_of (by omega) this
      omega
    · intro h
      have : 0 < (X y - X x) * -gT X Y x z k := g_mul_pos (by omega) (by omega)
      have : 0 < (X x - X z) * -gT X Y y x k := by grind
      have := g_pos_of (by omega) this
      omega
theorem gT_ray {x z p k : Nat} (h : gT X Y x p k = 0) : gT X Y x z k * (X p - X x) = gT X Y x z p * (X k - X x) := by
  have : gT X Y x z k * (X p - X x) = gT X Y x z p * (X k - X x) + gT X Y x p k * (X z - X x) := by unfold gT; grind
  rw [h] at this; simpa using this
/-- at the first seen way: all lies to the left of the way to the new point -/
theorem g_cone_l {N m y x z p : Nat} (hX : gRis X N) (hm : m < p) (hp : p < N) (hy : y ≤ m) (hx : x ≤ m) (hz : z ≤ m) (n1 : y ≠ x) (n2 : x ≠ z) (n3 : y ≠ z) (e1 : gE X Y m y x) (e2 : gE X Y m x z)
    (h1 : 0 ≤ gT X Y y x p) (h2 : gT X Y x z p < 0) (k : Nat) (hk : k ≤ m) : 0 ≤ gT X Y x p k ∧ (gT X Y x p k = 0 → ¬ (x < k ∧ k < p)) := by
  have hn : gT X Y y x z ≠ 0 := fun h0 => by
    have := (same_sgn (k := p) hX (by omega) hy hx hz n1 n2 n3 e1 e2 h0).2 h2; omega
  have hpz : 0 < gT X Y y x z := by have := (e1 z hz).1; omega
  have i := gT_pl (X := X) (Y := Y) y x z p k
  have g1 := Int.mul_nonneg h1 (e2 k hk).1
  have g2 : 0 ≤ gT X Y y x k * -gT X Y x z p := Int.mul_nonneg (e1 k hk).1 (by omega)
  rw [Int.mul_neg] at g2
  refine ⟨g_nonneg_of hpz (by omega), fun h0 ⟨c1, c2⟩ => ?_⟩
  have r := gT_ray (z := z) h0
  have q1 := hX x k c1 (by omega)
  have q2 := hX x p (by omega) hp
  have : 0 < -gT X Y x z p * (X k - X x) := g_mul_pos (by omega) (by omega)
  have : 0 ≤ gT X Y x z k * (X p - X x) := Int.mul_nonneg (e2 k hk).1 (by omega)
  rw [Int.neg_mul] at *
  omega
theorem gT_ray2 {x y p k : Nat} (h : gT X Y p x k = 0) : gT X Y y x k * (X p - X x) = gT X Y y x p * (X k - X x) := by
  have : gT X Y y x k * (X p - X x) = gT X Y y x p * (X k - X x) + gT X Y p x k * (X y - X x) := by unfold gT; grind
  rw [h] at this; simpa using this
/-- at the last seen way -/
theorem g_cone_u {N m y x z p : Nat} (hX : gRis X N) (hm : m < p) (hp : p < N) (hy : y ≤ m) (hx : x ≤ m) (hz : z ≤ m) (n1 : y ≠ x) (n2 : x ≠ z) (n3 : y ≠ z) (e1 : gE X Y m y x) (e2 : gE X Y m x z)
    (h1 : gT X Y y x p < 0) (h2 : 0 ≤ gT X Y x z p) (k : Nat) (hk : k ≤ m) : 0 ≤ gT X Y p x k ∧ (gT X Y p x k = 0 → ¬ (x < k ∧ k < p)) := by
  have hn : gT X Y y x z ≠ 0 := fun h0 => by
    have := (same_sgn (k := p) hX (by omega) hy hx hz n1 n2 n3 e1 e2 h0).1 h1; omega
  have hpz : 0 < gT X Y y x z := by have := (e1 z hz).1; omega
  have i := gT_pl (X := X) (Y := Y) y x z p k
  have g1 : 0 ≤ -gT X Y y x p * gT X Y x z k := Int.mul_nonneg (by omega) (e2 k hk).1
  have g2 : 0 ≤ gT X Y y x k * gT X Y x z p := Int.mul_nonneg (e1 k hk).1 h2
  rw [Int.neg_mul] at g1
  refine ⟨g_nonneg_of hpz (by rw [gT_swap x p k, Int.mul_neg]; omega), fun h0 ⟨c1, c2⟩ => ?_⟩
  have r := gT_ray2 (y := y) h0
  have q1 := hX x k c1 (by omega)
  have q2 := hX x p (by omega) hp
  have : 0 < -gT X Y y x p * (X k - X x) := g_mul_pos (by omega) (by omega)
  have : 0 ≤ gT X Y y x k * (X p - X x) := Int.mul_nonneg (e1 k hk).1 (by omega)
  rw [Int.neg_mul] at *
  omega
/-- the last point sees a way beside the last but one -/
theorem last_sees {N m y z p : Nat} (hX : gRis X N) (hm : m < p) (hp : p < N) (hy : y < m) (hz : z < m) (n3 : y ≠ z) (e1 : gE X Y m y m) (e2 : gE X Y m m z) : ¬ (0 ≤ gT X Y y m p ∧ 0 ≤ gT X Y m z p) := by
  rintro ⟨h1, h2⟩
  have i := gT_xab (X := X) (Y := Y) m y z p
  have q1 := hX y m hy (by omega)
  have q2 := hX z m hz (by omega)
  have q3 := hX m p hm hp
  have h3 := (e1 z (by omega)).1
  have r1 : gT X Y m p y = gT X Y y m p := gT_rot y m p
  have r2 : gT X Y m y z = -gT X Y y m z := gT_swap y m z
  rw [r1, r2] at i
  have g1 : 0 ≤ (X m - X y) * gT X Y m z p := Int.mul_nonneg (by omega) h2
  have g2 : 0 ≤ (X m - X z) * gT X Y y m p := Int.mul_nonneg (by omega) h1
  have g3 : 0 ≤ (X p - X m) * gT X Y y m z := Int.mul_nonneg (by omega) h3
  have g0 : (X m - X y) * gT X Y m z p + (X m - X z) * gT X Y y m p + (X p - X m) * gT X Y y m z = 0 := by grind
  have g4 : (X p - X m) * gT X Y y m z = 0 := by omega
  have h0 := g_zero_of (by omega) g4
  have := runs_on hX (by omega) (by omega) (Nat.le_refl _) (by omega) (by omega) (by omega) n3 e1 e2 h0
  omega
/-- a point behind all others doesn't see both ways beside the first point -/
theorem zero_not {N m y z p : Nat} (hX : gRis X N) (hm : m < p) (hp : p < N) (hy : 0 < y) (hz : 0 < z) (hym : y ≤ m) (hzm : z ≤ m) (e1 : gE X Y m y 0) : ¬ (gT X Y y 0 p < 0 ∧ gT X Y 0 z p < 0) := by
  rintro ⟨h1, h2⟩
  have i := gT_xab (X := X) (Y := Y) 0 y z p
  have q1 := hX 0 y hy (by omega)
  have q2 := hX 0 z hz (by omega)
  have q3 := hX 0 p (by omega) hp
  have h3 := (e1 z hzm).1
  have r1 : gT X Y 0 p y = gT X Y y 0 p := gT_rot y 0 p
  have r2 : gT X Y 0 y z = -gT X Y y 0 z := gT_swap y 0 z
  rw [r1, r2] at i
  have g1 : 0 < (X y - X 0) * -gT X Y 0 z p := g_mul_pos (by omega) (by omega)
  have g2 : 0 < (X z - X 0) * -gT X Y y 0 p := g_mul_pos (by omega) (by omega)
  have g3 : 0 ≤ (X p - X 0) * gT X Y y 0 z := Int.mul_nonneg (by omega) h3
  rw [Int.mul_neg] at g1 g2 i
  omega
end
theorem rise_ex (s : Nat → Bool) (n : Nat) : ∀ d i, s i = false → s ((i + d) % n) = true → i < n → ∃ r, r < n ∧ s r = true ∧ s ((r + n - 1) % n) = false := by
  intro d
  induction d with
  | zero => intro i h1 h2 hi; rw [Nat.add_zero, Nat.mod_eq_of_lt hi, h1] at h2; cases h2
  | succ d ih =>
    intro i h1 h2 hi
    rcases hc : s ((i + d) % n) with _ | _
    · refine ⟨(i + (d + 1)) % n, Nat.mod_lt _ (by omega), h2, ?_⟩
      have : ((i + (d + 1)) % n + n - 1) % n = (i + d) % n := by
        have h3 : (i + (d + 1)) % n + n - 1 = (i + (d + 1)) % n + (n - 1) := by omega
        rw [h3, Nat.mod_add_mod, show i + (d + 1) + (n - 1) = i + d + n by omega, Nat.add_mod_right]
      rw [this, hc]
    · exact ih i h1 hc hi
theorem g_pred_mod (n f k : Nat) (hn : 0 < n) : ((f + (k + 1)) % n + n - 1) % n = (f + k) % n := by
  have h3 : (f + (k + 1)) % n + n - 1 = (f + (k + 1)) % n + (n - 1) := by omega
  rw [h3, Nat.mod_add_mod, show f + (k + 1) + (n - 1) = f + k + n by omega, Nat.add_mod_right]
theorem g_mod_inj {n f a b : Nat} (ha : a < n) (hb : b < n) (h : (f + a) % n = (f + b) % n) : a = b := by
  have h1 : ((f + a) % n + (n - f % n)) % n = a := by
    rw [Nat.mod_add_mod]
    have : f + a + (n - f % n) = a + n * (f / n) + n := by have := Nat.div_add_mod f n; have := Nat.mod_lt f (show 0 < n by omega); omega
    rw [this, Nat.add_mod_right, Nat.add_mul_mod_self_left, Nat.mod_eq_of_lt ha]
  have h2 : ((f + b) % n + (n - f % n)) % n = b := by
    rw [Nat.mod_add_mod]
    have : f + b + (n - f % n) = b + n * (f / n) + n := by have := Nat.div_add_mod f n; have := Nat.mod_lt f (show 0 < n by omega); omega
    rw [this, Nat.add_mod_right, Nat.add_mul_mod_self_left, Nat.mod_eq_of_lt hb]
  rw [← h1, ← h2, h]
/-- one rise alone: behind the run nothing is seen -/
theorem rest_off (s : Nat → Bool) (n f j : Nat) (hf : f < n) (hj : s ((f + j) % n) = false) (hu : ∀ r, r < n → s r = true → s ((r + n - 1) % n) = false → r = f) (hj0 : 0 < j) :
    ∀ k, j ≤ k → k < n → s ((f + k) % n) = false := by
  intro k
  induction k with
  | zero => intro h; omega
  | succ k ih =>
    intro h1 h2
    rcases Nat.lt_or_ge k j with h3 | h3
    · have : k + 1 = j := by omega
      rw [this]; exact hj
    · have h4 := ih h3 (by omega)
      rcases hc : s ((f + (k + 1)) % n) with _ | _
      · rfl
      · have h5 := hu _ (Nat.mod_lt _ (by omega)) hc (by rw [g_pred_mod n f k (by omega)]; exact h4)
        have := g_mod_inj (n := n) (f := f) (a := k + 1) (b := 0) h2 (by omega) (by rw [h5, Nat.add_zero, Nat.mod_eq_of_lt hf])
        omega
/-- the hull, as the builder keeps it -/
structure Hul (X Y : Nat → Int) (m : Nat) (h : List Nat) : Prop where
  len : 3 ≤ h.length
  nd : ∀ i j, i < h.length → j < h.length → gH h i = gH h j → i = j
  le : ∀ i, i < h.length → gH h i ≤ m
  edge : ∀ i, i < h.length → gE X Y m (gH h i) (gH h ((i + 1) % h.length))
  zero : ∃ i, i < h.length ∧ gH h i = 0
  last : ∃ i, i < h.length ∧ gH h i = m
theorem pred_lt {n i : Nat} (h : i < n) : (i + n - 1) % n < n := Nat.mod_lt _ (by omega)
theorem succ_pred {n i : Nat} (h : i < n) : ((i + n - 1) % n + 1) % n = i := by
  rw [Nat.mod_add_mod, show i + n - 1 + 1 = i + n by omega, Nat.add_mod_right, Nat.mod_eq_of_lt h]
theorem pred_ne {n i : Nat} (h : i < n) (h3 : 3 ≤ n) : (i + n - 1) % n ≠ i ∧ (i + 1) % n ≠ i ∧ (i + n - 1) % n ≠ (i + 1) % n := by
  rcases Nat.eq_zero_or_pos i with h0 | h0
  · subst h0
    rw [Nat.mod_eq_of_lt (by omega), Nat.mod_eq_of_lt (by omega)]; omega
  · rw [show i + n - 1 = (i - 1) + n by omega, Nat.add_mod_right, Nat.mod_eq_of_lt (by omega)]
    rcases Nat.lt_or_ge (i + 1) n with h1 | h1
    · rw [Nat.mod_eq_of_lt h1]; omega
    · rw [show i + 1 = n by omega, Nat.mod_self]; omega
section
variable {X Y : Nat → Int} {N m : Nat} {h : List Nat}
/-- what stands about one vertex -/
theorem Hul.at (H : Hul X Y m h) {i : Nat} (hi : i < h.length) : ∃ y x z, y = gH h ((i + h.length - 1) % h.length) ∧ x = gH h i ∧ z = gH h ((i + 1) % h.length) ∧ y ≤ m ∧ x ≤ m ∧ z ≤ m ∧ y ≠ x ∧ x ≠ z ∧ y ≠ z ∧ gE X Y m y x ∧ gE X Y m x z := by
  have h3 := H.len
  obtain ⟨p1, p2, p3⟩ := pred_ne hi h3
  have l1 := pred_lt hi
  have l2 : (i + 1) % h.length < h.length := Nat.mod_lt _ (by omega)
  refine ⟨_, _, _, rfl, rfl, rfl, H.le _ l1, H.le _ hi, H.le _ l2, fun e => p1 (H.nd _ _ l1 hi e), fun e => p2 (H.nd _ _ l2 hi e.symm), fun e => p3 (H.nd _ _ l1 l2 e), ?_, H.edge _ hi⟩
  have := H.edge _ l1
  rw [succ_pred hi] at this
  exact this
/-- is the way from place i on seen? -/
def gsn (X Y : Nat → Int) (h : List Nat) (p i : Nat) : Bool := decide (gT X Y (gH h i) (gH h ((i + 1) % h.length)) p < 0)
theorem Hul.sn_pred (H : Hul X Y m h) {p i : Nat} (hi : i < h.length) : gsn X Y h p ((i + h.length - 1) % h.length) = decide (gT X Y (gH h ((i + h.length - 1) % h.length)) (gH h i) p < 0) := by
  unfold gsn; rw [succ_pred hi]
theorem Hul.rise (H : Hul X Y m h) (hX : gRis X N) {p : Nat} (hm : m < p) (hp : p < N) (h0 : 0 < m) : ∃ r, r < h.length ∧ gsn X Y h p r = true ∧ gsn X Y h p ((r + h.length - 1) % h.length) = false := by
  obtain ⟨iz, z1, z2⟩ := H.zero
  obtain ⟨il, l1, l2⟩ := H.last
  -- one that is not seen
  have a : ∃ i, i < h.length ∧ gsn X Y h p i = false := by
    obtain ⟨y, x, z, ey, ex, ez, ly, lx, lz, n1, n2, n3, e1, e2⟩ := H.at z1
    rw [z2] at ex; subst ex
    rcases hc : gsn X Y h p iz with _ | _
    · exact ⟨iz, z1, hc⟩
    · refine ⟨_, pred_lt z1, ?_⟩
      rw [H.sn_pred z1, ← ey, z2]
      unfold gsn at hc
      rw [← ez, z2] at hc
      have := zero_not hX hm hp (by omega) (by omega) ly lz e1
      simp at hc ⊢
      omega
  have b : ∃ i, i < h.length ∧ gsn X Y h p i = true := by
    obtain ⟨y, x, z, ey, ex, ez, ly, lx, lz, n1, n2, n3, e1, e2⟩ := H.at l1
    rw [l2] at ex; subst ex
    rcases hc : gsn X Y h p il with _ | _
    · refine ⟨_, pred_lt l1, ?_⟩
      rw [H.sn_pred l1, ← ey, l2]
      unfold gsn at hc
      rw [← ez, l2] at hc
      have := last_sees hX hm hp (by omega) (by omega) n3 e1 e2
      simp at hc ⊢
      omega
    · exact ⟨il, l1, hc⟩
  obtain ⟨i, i1, i2⟩ := a
  obtain ⟨k, k1, k2⟩ := b
  refine rise_ex (gsn X Y h p) h.length (k + h.length - i) i i2 ?_ i1
  rw [show i + (k + h.length - i) = k + h.length by omega, Nat.add_mod_right, Nat.mod_eq_of_lt k1]
  exact k2
theorem Hul.rise_l (H : Hul X Y m h) (hX : gRis X N) {p : Nat} (hm : m < p) (hp : p < N) {r : Nat} (hr : r < h.length) (h1 : gsn X Y h p r = true) (h2 : gsn X Y h p ((r + h.length - 1) % h.length) = false) (k : Nat) (hk : k ≤ m) :
    0 ≤ gT X Y (gH h r) p k ∧ (gT X Y (gH h r) p k = 0 → ¬ (gH h r < k ∧ k < p)) := by
  obtain ⟨y, x, z, ey, ex, ez, ly, lx, lz, n1, n2, n3, e1, e2⟩ := H.at hr
  rw [H.sn_pred hr, ← ey, ← ex] at h2
  unfold gsn at h1
  rw [← ez, ← ex] at h1
  rw [← ex]
  simp at h1 h2
  exact g_cone_l hX hm hp ly lx lz n1 n2 n3 e1 e2 h2 h1 k hk
theorem Hul.rise_u (H : Hul X Y m h) (hX : gRis X N) {p : Nat} (hm : m < p) (hp : p < N) {r : Nat} (hr : r < h.length) (h1 : gsn X Y h p r = false) (h2 : gsn X Y h p ((r + h.length - 1) % h.length) = true) (k : Nat) (hk : k ≤ m) :
    0 ≤ gT X Y p (gH h r) k ∧ (gT X Y p (gH h r) k = 0 → ¬ (gH h r < k ∧ k < p)) := by
  obtain ⟨y, x, z, ey, ex, ez, ly, lx, lz, n1, n2, n3, e1, e2⟩ := H.at hr
  rw [H.sn_pred hr, ← ey, ← ex] at h2
  unfold gsn at h1
  rw [← ez, ← ex] at h1
  rw [← ex]
  simp at h1 h2
  exact g_cone_u hX hm hp ly lx lz n1 n2 n3 e1 e2 h2 h1 k hk
theorem Hul.rise_one (H : Hul X Y m h) (hX : gRis X N) {p : Nat} (hm : m < p) (hp : p < N) {r f : Nat} (hr : r < h.length) (h1 : gsn X Y h p r = true) (h2 : gsn X Y h p ((r + h.length - 1) % h.length) = false)
    (hf : f < h.length) (g1 : gsn X Y h p f = true) (g2 : gsn X Y h p ((f + h.length - 1) % h.length) = false) : r = f := by
  have a := H.rise_l hX hm hp hr h1 h2 _ (H.le f hf)
  have b := H.rise_l hX hm hp hf g1 g2 _ (H.le r hr)
  have e : gT X Y (gH h f) p (gH h r) = -gT X Y (gH h r) p (gH h f) := by unfold gT; grind
  have l1 := H.le f hf
  have l2 := H.le r hr
  refine H.nd _ _ hr hf ?_
  have a2 := a.2 (by omega)
  have b2 := b.2 (by omega)
  omega
end
section
variable {X Y : Nat → Int} {N m : Nat} {h : List Nat}
theorem takeWhile_run (s : Nat → Bool) (n : Nat) : (∀ k, k < ((List.range n).takeWhile s).length → s k = true) ∧ ((List.range n).takeWhile s).length ≤ n ∧ (((List.range n).takeWhile s).length < n → s ((List.range n).takeWhile s).length = false) := by
  have hp : ((List.range n).takeWhile s) <+: List.range n := List.takeWhile_prefix s
  have hl : ((List.range n).takeWhile s).length ≤ n := by have := hp.length_le; simpa using this
  have hg : ∀ k, (hk : k < ((List.range n).takeWhile s).length) → ((List.range n).takeWhile s)[k] = k := fun k hk => by
    have := hp.getElem hk
    rw [this, List.getElem_range]
  refine ⟨fun k hk => ?_, hl, fun hlt => ?_⟩
  · have := List.all_eq_true.1 (List.all_takeWhile (p := s) (l := List.range n)) _ (List.getElem_mem hk)
    rw [hg k hk] at this; exact this
  · have h1 := List.takeWhile_append_dropWhile (p := s) (l := List.range n)
    rcases hd : (List.range n).dropWhile s with _ | ⟨x, l⟩
    · rw [hd, List.append_nil] at h1; rw [h1] at hlt; simp at hlt
    · have hx : s x = false := by
        have := List.head_dropWhile_not s (l := List.range n) (by rw [hd]; simp)
        simpa [hd] using this
      have h2 : ((List.range n).takeWhile s ++ x :: l)[((List.range n).takeWhile s).length]? = some x := by
        rw [List.getElem?_append_right (Nat.le_refl _), Nat.sub_self]; rfl
      rw [hd] at h1
      rw [h1, List.getElem?_range hlt] at h2
      injection h2 with h2
      rw [h2]; exact hx
/-- the builder's search finds the one rise and runs over all that is seen -/
theorem Hul.addok (H : Hul X Y m h) (hX : gRis X N) {p : Nat} (hm : m < p) (hp : p < N) (h0 : 0 < m) {X0 Y0 : Nat → Int} (hs : ∀ i, i < h.length → sE X0 Y0 h p i = gsn X Y h p i) :
    AddOk X0 Y0 h p (firstI X0 Y0 h p) (runJ X0 Y0 h p (firstI X0 Y0 h p)) ∧ ∀ k, runJ X0 Y0 h p (firstI X0 Y0 h p) ≤ k → k < h.length → gsn X Y h p ((firstI X0 Y0 h p + k) % h.length) = false := by
  have h3 := H.len
  obtain ⟨r, r1, r2, r3⟩ := H.rise hX hm hp h0
  have hone := fun (r' : Nat) (a : r' < h.length) b c => H.rise_one hX hm hp a b c r1 r2 r3
  have hf : (List.range h.length).find? (fun i => sE X0 Y0 h p i && !sE X0 Y0 h p ((i + h.length - 1) % h.length)) = some r := by
    rcases hc : (List.range h.length).find? (fun i => sE X0 Y0 h p i && !sE X0 Y0 h p ((i + h.length - 1) % h.length)) with _ | x
    · rw [List.find?_eq_none] at hc
      have := hc r (List.mem_range.2 r1)
      rw [hs r r1, hs _ (pred_lt r1), r2, r3] at this
      simp at this
    · have h1 := List.find?_some hc
      have h2 := List.mem_range.1 (List.mem_of_find?_eq_some hc)
      rw [hs x h2, hs _ (pred_lt h2)] at h1
      simp at h1
      rw [hone x h2 h1.1 h1.2]
  have ef : firstI X0 Y0 h p = r := by unfold firstI; rw [hf]; rfl
  rw [ef]
  obtain ⟨t1, t2, t3⟩ := takeWhile_run (fun k => sE X0 Y0 h p ((r + k) % h.length)) h.length
  have ml : ∀ k, (r + k) % h.length < h.length := fun k => Nat.mod_lt _ (by omega)
  have j0 : 0 < runJ X0 Y0 h p r := by
    rcases Nat.eq_zero_or_pos (runJ X0 Y0 h p r) with e | e
    · have := t3 (by unfold runJ at e; omega)
      unfold runJ at e
      rw [e, hs _ (ml _), Nat.add_zero, Nat.mod_eq_of_lt r1, r2] at this
      cases this
    · exact e
  have j1 : runJ X0 Y0 h p r < h.length := by
    rcases Nat.lt_or_ge (runJ X0 Y0 h p r) h.length with e | e
    · exact e
    · have := t1 (h.length - 1) (by unfold runJ at e; omega)
      rw [hs _ (ml _), show r + (h.length - 1) = r + h.length - 1 by omega, r3] at this
      cases this
  have fin := t3 j1
  rw [hs _ (ml _)] at fin
  refine ⟨⟨r1, j0, j1, fun i hi hsi => ?_, by rw [hs _ (pred_lt r1)]; exact r3, t1, t3 j1⟩, fun k => ?_⟩
  · rw [hs _ (pred_lt (by omega))]
    rw [hs _ (by omega)] at hsi
    rcases hc : gsn X Y h p ((i + h.length - 1) % h.length) with _ | _
    · have := hone i (by omega) hsi hc; omega
    · rfl
  · exact rest_off _ _ _ _ r1 fin hone j0 k
theorem addH_len (p f j : Nat) : (addH h p f j).length = h.length - j + 2 := by unfold addH; simp
theorem addH_0 (p f j : Nat) : gH (addH h p f j) 0 = gH h f := rfl
theorem addH_1 (p f j : Nat) : gH (addH h p f j) 1 = p := rfl
theorem addH_2 (p f j c : Nat) (hc : c < h.length - j) : gH (addH h p f j) (c + 2) = gH h ((f + j + c) % h.length) := by
  show ((List.range (h.length - j)).map fun k => gH h ((f + j + k) % h.length)).getD c 0 = _
  rw [List.getD_eq_getElem?_getD, List.getElem?_map, List.getElem?_range hc]; rfl
/-- the hull behind one more point -/
theorem Hul.next (H : Hul X Y m h) (hX : gRis X N) (hp : m + 1 < N) (h0 : 0 < m) {f j : Nat} (hf : f < h.length) (hj0 : 0 < j) (hj1 : j < h.length) (hr : gsn X Y h (m + 1) ((f + h.length - 1) % h.length) = false)
    (run : ∀ k, k < j → gsn X Y h (m + 1) ((f + k) % h.length) = true) (off : ∀ k, j ≤ k → k < h.length → gsn X Y h (m + 1) ((f + k) % h.length) = false) : Hul X Y (m + 1) (addH h (m + 1) f j) := by
  have h3 := H.len
  have ml : ∀ k, k % h.length < h.length := fun k => Nat.mod_lt _ (by omega)
  have run0 : gsn X Y h (m + 1) f = true := by have := run 0 hj0; rw [show (f + 0) % h.length = f from Nat.mod_eq_of_lt hf] at this; exact this
  have hl := addH_len (h := h) (m + 1) f j
  -- the places of the new hull
  have pl : ∀ i, i < (addH h (m + 1) f j).length → (i = 0 ∧ gH (addH h (m + 1) f j) i = gH h f) ∨ (i = 1 ∧ gH (addH h (m + 1) f j) i = m + 1) ∨ ∃ c, c < h.length - j ∧ i = c + 2 ∧ gH (addH h (m + 1) f j) i = gH h ((f + j + c) % h.length) := by
    intro i hi
    match i, hi with
    | 0, _ => exact .inl ⟨rfl, rfl⟩
    | 1, _ => exact .inr (.inl ⟨rfl, rfl⟩)
    | c + 2, hi => exact .inr (.inr ⟨c, by omega, rfl, addH_2 _ _ _ _ (by omega)⟩)
  have lo := H.rise_l hX (Nat.lt_succ_self m) hp hf run0 hr
  have fj : ((f + j) % h.length + h.length - 1) % h.length = (f + (j - 1)) % h.length := by
    have := g_pred_mod h.length f (j - 1) (by omega)
    rwa [show j - 1 + 1 = j by omega] at this
  have up := H.rise_u hX (Nat.lt_succ_self m) hp (ml (f + j)) (off j (Nat.le_refl _) hj1) (by rw [fj]; exact run (j - 1) (by omega))
  refine ⟨by omega, ?_, ?_, ?_, ?_, ⟨1, by omega, rfl⟩⟩
  · intro i k hi hk he
    have new : ∀ i, i < h.length → gH h i ≠ m + 1 := fun i hi => by have := H.le i hi; omega
    rcases pl i hi with ⟨a, b⟩ | ⟨a, b⟩ | ⟨c, c1, a, b⟩ <;> rcases pl k hk with ⟨a', b'⟩ | ⟨a', b'⟩ | ⟨c', c1', a', b'⟩ <;> rw [b, b'] at he
    · omega
    · exact absurd he (new _ hf)
    · have := H.nd _ _ hf (ml _) he
      have := g_mod_inj (n := h.length) (f := f) (a := 0) (b := j + c') (by omega) (by omega) (by rw [Nat.add_zero, Nat.mod_eq_of_lt hf, ← Nat.add_assoc]; exact this)
      omega
    · exact absurd he.symm (new _ hf)
    · omega
    · exact absurd he.symm (new _ (ml _))
    · have := H.nd _ _ (ml _) hf he
      have := g_mod_inj (n := h.length) (f := f) (a := j + c) (b := 0) (by omega) (by omega) (by rw [Nat.add_zero, Nat.mod_eq_of_lt hf, ← Nat.add_assoc]; exact this)
      omega
    · exact absurd he (new _ (ml _))
    · have := H.nd _ _ (ml _) (ml _) he
      have := g_mod_inj (n := h.length) (f := f) (a := j + c) (b := j + c') (by omega) (by omega) (by rw [← Nat.add_assoc, ← Nat.add_assoc]; exact this)
      omega
  · intro i hi
    rcases pl i hi with ⟨a, b⟩ | ⟨a, b⟩ | ⟨c, c1, a, b⟩ <;> rw [b]
    · have := H.le f hf; omega
    · omega
    · have := H.le _ (ml (f + j + c)); omega
  · intro i hi
    rcases pl i hi with ⟨a, b⟩ | ⟨a, b⟩ | ⟨c, c1, a, b⟩ <;> rw [b]
    · subst a
      rw [show (0 + 1) % (addH h (m + 1) f j).length = 1 from Nat.mod_eq_of_lt (by omega), addH_1]
      intro k hk
      rcases Nat.lt_or_ge m k with h4 | h4
      · rw [show k = m + 1 by omega, gT_end2]; omega
      · have a1 := lo k h4
        have a2 := H.le f hf
        exact ⟨a1.1, fun e => ⟨fun q => a1.2 e ⟨q.1, q.2⟩, fun q => by omega⟩⟩
    · subst a
      rw [show (1 + 1) % (addH h (m + 1) f j).length = 0 + 2 from Nat.mod_eq_of_lt (by omega), addH_2 _ _ _ _ (by omega), Nat.add_zero]
      intro k hk
      rcases Nat.lt_or_ge m k with h4 | h4
      · rw [show k = m + 1 by omega, gT_end1]; omega
      · have a1 := up k h4
        have a2 := H.le _ (ml (f + j))
        exact ⟨a1.1, fun e => ⟨fun q => by omega, fun q => a1.2 e ⟨q.1, q.2⟩⟩⟩
    · have hnx : gH (addH h (m + 1) f j) ((i + 1) % (addH h (m + 1) f j).length) = gH h (((f + j + c) % h.length + 1) % h.length) := by
        rw [Nat.mod_add_mod, a]
        rcases Nat.lt_or_ge (c + 1) (h.length - j) with h4 | h4
        · rw [Nat.mod_eq_of_lt (by omega), show c + 2 + 1 = (c + 1) + 2 by omega, addH_2 _ _ _ _ h4]; rfl
        · rw [show c + 2 + 1 = (addH h (m + 1) f j).length by omega, Nat.mod_self, addH_0, show f + j + c + 1 = f + h.length by omega, Nat.add_mod_right, Nat.mod_eq_of_lt hf]
      rw [hnx]
      have e := H.edge _ (ml (f + j + c))
      have o := off (j + c) (by omega) (by omega)
      rw [← Nat.add_assoc] at o
      unfold gsn at o
      simp only [decide_eq_false_iff_not] at o
      have l1 := H.le _ (ml (f + j + c))
      have l2 := H.le _ (ml ((f + j + c) % h.length + 1))
      intro k hk
      rcases Nat.lt_or_ge m k with h4 | h4
      · rw [show k = m + 1 by omega]; omega
      · exact e k h4
  · -- the first point stays
    obtain ⟨iz, z1, z2⟩ := H.zero
    have hd : ∃ d, d < h.length ∧ (f + d) % h.length = iz := by
      refine ⟨(iz + h.length - f) % h.length, ml _, ?_⟩
      rw [Nat.add_mod_mod, show f + (iz + h.length - f) = iz + h.length by omega, Nat.add_mod_right, Nat.mod_eq_of_lt z1]
    obtain ⟨d, d1, d2⟩ := hd
    rcases Nat.eq_zero_or_pos d with d0 | d0
    · subst d0
      rw [Nat.add_zero, Nat.mod_eq_of_lt hf] at d2
      exact ⟨0, by omega, by rw [addH_0, d2]; exact z2⟩
    · rcases Nat.lt_or_ge d j with h4 | h4
      · exfalso
        obtain ⟨y, x, z, ey, ex, ez, ly, lx, lz, n1, n2, n3, e1, e2⟩ := H.at z1
        rw [z2] at ex; subst ex
        have s1 := run d h4
        have s2 := run (d - 1) (by omega)
        have := g_pred_mod h.length f (d - 1) (by omega)
        rw [show d - 1 + 1 = d by omega, d2] at this
        rw [← this, H.sn_pred z1, ← ey, z2] at s2
        rw [d2] at s1
        unfold gsn at s1
        rw [← ez, z2] at s1
        simp at s1 s2
        exact zero_not hX (Nat.lt_succ_self m) hp (by omega) (by omega) ly lz e1 ⟨s2, s1⟩
      · refine ⟨d - j + 2, by omega, ?_⟩
        rw [addH_2 _ _ _ _ (by omega), show f + j + (d - j) = f + d by omega, d2]; exact z2
end
def gsd (t : Tri3) (a b : Nat) : Prop := (a = t.1 ∧ b = t.2.1) ∨ (a = t.2.1 ∧ b = t.2.2) ∨ (a = t.2.2 ∧ b = t.1)
def gSd (l : List Tri3) (a b : Nat) : Prop := ∃ t, t ∈ l ∧ gsd t a b
def okT (N : Nat) (S : Nat → Nat → Prop) (t : Tri3) : Prop := t.1 < N ∧ t.2.1 < N ∧ t.2.2 < N ∧ t.1 ≠ t.2.1 ∧ t.2.1 ≠ t.2.2 ∧ t.1 ≠ t.2.2 ∧ ¬ S t.1 t.2.1 ∧ ¬ S t.2.1 t.2.2 ∧ ¬ S t.2.2 t.1
def Fresh (N : Nat) : (Nat → Nat → Prop) → List Tri3 → Prop
  | _, [] => True
  | S, t :: l => okT N S t ∧ Fresh N (fun a b => S a b ∨ gsd t a b) l
theorem fresh_of (N : Nat) : ∀ (l : List Tri3) (S : Nat → Nat → Prop), (∀ (k : Nat) (t : Tri3), l[k]? = some t → okT N S t) →
    (∀ (k k' : Nat) (t t' : Tri3), k < k' → l[k]? = some t → l[k']? = some t' → ¬ gsd t t'.1 t'.2.1 ∧ ¬ gsd t t'.2.1 t'.2.2 ∧ ¬ gsd t t'.2.2 t'.1) → Fresh N S l := by
  intro l
  induction l with
  | nil => intro S _ _; trivial
  | cons t l ih =>
    intro S h1 h2
    refine ⟨h1 0 t rfl, ih _ (fun k u hu => ?_) (fun k k' u u' hk hu hu' => h2 (k + 1) (k' + 1) u u' (by omega) hu hu')⟩
    have a := h1 (k + 1) u hu
    have b := h2 0 (k + 1) t u (by omega) rfl hu
    obtain ⟨a1, a2, a3, a4, a5, a6, a7, a8, a9⟩ := a
    exact ⟨a1, a2, a3, a4, a5, a6, fun c => c.elim a7 b.1, fun c => c.elim a8 b.2.1, fun c => c.elim a9 b.2.2⟩
theorem fresh_cong (N : Nat) : ∀ (l : List Tri3) (S S' : Nat → Nat → Prop), (∀ a b, S a b ↔ S' a b) → (Fresh N S l ↔ Fresh N S' l) := by
  intro l S S' h
  have : S = S' := funext fun a => funext fun b => propext (h a b)
  rw [this]
theorem fresh_app (N : Nat) : ∀ (l m : List Tri3) (S : Nat → Nat → Prop), Fresh N S (l ++ m) ↔ Fresh N S l ∧ Fresh N (fun a b => S a b ∨ gSd l a b) m := by
  intro l
  induction l with
  | nil =>
    intro m S
    constructor
    · intro h; exact ⟨trivial, (fresh_cong N m _ _ (fun a b => ⟨.inl, fun c => c.elim id (fun ⟨t, ht, _⟩ => by cases ht)⟩)).1 h⟩
    · intro h; exact (fresh_cong N m _ _ (fun a b => ⟨.inl, fun c => c.elim id (fun ⟨t, ht, _⟩ => by cases ht)⟩)).2 h.2
  | cons t l ih =>
    intro m S
    show (_ ∧ Fresh N _ (l ++ m)) ↔ (_ ∧ Fresh N _ l) ∧ _
    rw [ih, and_assoc]
    refine and_congr Iff.rfl (and_congr Iff.rfl (fresh_cong N m _ _ fun a b => ?_))
    constructor
    · rintro ((c | c) | ⟨u, hu, c⟩)
      · exact .inl c
      · exact .inr ⟨t, List.mem_cons_self .., c⟩
      · exact .inr ⟨u, List.mem_cons_of_mem _ hu, c⟩
    · rintro (c | ⟨u, hu, c⟩)
      · exact .inl (.inl c)
      · rcases List.mem_cons.1 hu with rfl | hu
        · exact .inl (.inr c)
        · exact .inr ⟨u, hu, c⟩
/-- what stands between the hull and the triangles put -/
structure Bnd (m : Nat) (h : List Nat) (l : List Tri3) : Prop where
  dom : ∀ a b, gSd l a b → a ≤ m ∧ b ≤ m
  new : ∀ i, i < h.length → ¬ gSd l (gH h ((i + 1) % h.length)) (gH h i)
  cnt : l.length + h.length ≤ 2 * (m + 1)
  hln : h.length ≤ m + 1
section
variable {X Y : Nat → Int} {N m : Nat} {h : List Nat}
theorem addT_get (p f j k : Nat) (t : Tri3) (ht : (addT h p f j)[k]? = some t) : k < j ∧ t = (gH h ((f + k) % h.length), p, gH h ((f + (k + 1)) % h.length)) := by
  unfold addT at ht
  rw [List.getElem?_map] at ht
  rcases Nat.lt_or_ge k j with hk | hk
  · rw [List.getElem?_range hk] at ht
    refine ⟨hk, ?_⟩
    injection ht with ht
    rw [← ht]
    show (gH h _, p, gH h (((f + k) % h.length + 1) % h.length)) = _
    rw [Nat.mod_add_mod]; rfl
  · rw [List.getElem?_eq_none (by simpa using hk)] at ht; cases ht
theorem addT_mem (p f j : Nat) (t : Tri3) (ht : t ∈ addT h p f j) : ∃ k, k < j ∧ t = (gH h ((f + k) % h.length), p, gH h ((f + (k + 1)) % h.length)) := by
  obtain ⟨k, hk⟩ := List.mem_iff_getElem?.1 ht
  obtain ⟨a, b⟩ := addT_get p f j k t hk
  exact ⟨k, a, b⟩
theorem Hul.inj (H : Hul X Y m h) {f a b : Nat} (ha : a < h.length) (hb : b < h.length) (he : gH h ((f + a) % h.length) = gH h ((f + b) % h.length)) : a = b := by
  have h3 := H.len
  exact g_mod_inj ha hb (H.nd _ _ (Nat.mod_lt _ (by omega)) (Nat.mod_lt _ (by omega)) he)
theorem Hul.putok (H : Hul X Y m h) {l : List Tri3} (B : Bnd m h l) (hp : m + 1 < N) {f j : Nat} (hj1 : j < h.length) : Fresh N (gSd l) (addT h (m + 1) f j) := by
  have h3 := H.len
  have ml : ∀ k, k % h.length < h.length := fun k => Nat.mod_lt _ (by omega)
  have le := fun k => H.le _ (ml k)
  refine fresh_of N _ _ (fun k t ht => ?_) (fun k k' t t' hk ht ht' => ?_)
  · obtain ⟨hk, rfl⟩ := addT_get _ _ _ _ _ ht
    have l1 := le (f + k)
    have l2 := le (f + (k + 1))
    refine ⟨by show gH h _ < N; omega, hp, by show gH h _ < N; omega, ?_, ?_, fun e => ?_, fun e => ?_, fun e => ?_, fun e => ?_⟩
    · show gH h _ ≠ m + 1; omega
    · show m + 1 ≠ gH h _; omega
    · have := H.inj (f := f) (by omega) (by omega) e; omega
    · have := (B.dom _ _ e).2
      have : m + 1 ≤ m := this
      omega
    · have := (B.dom _ _ e).1
      have : m + 1 ≤ m := this
      omega
    · refine B.new ((f + k) % h.length) (ml _) ?_
      rw [Nat.mod_add_mod]; exact e
  · obtain ⟨hk1, rfl⟩ := addT_get _ _ _ _ _ ht
    obtain ⟨hk2, rfl⟩ := addT_get _ _ _ _ _ ht'
    have l1 := le (f + k)
    have l2 := le (f + (k + 1))
    have l3 := le (f + k')
    have l4 := le (f + (k' + 1))
    refine ⟨?_, ?_, ?_⟩ <;> rintro (⟨e1, e2⟩ | ⟨e1, e2⟩ | ⟨e1, e2⟩) <;> simp only [] at e1 e2
    all_goals first
      | omega
      | (have := H.inj (f := f) (by omega) (by omega) e1; omega)
      | (have := H.inj (f := f) (by omega) (by omega) e2; omega)
theorem Sd_app {l l' : List Tri3} {a b : Nat} (h : gSd (l ++ l') a b) : gSd l a b ∨ gSd l' a b := by
  obtain ⟨t, ht, hs⟩ := h
  rcases List.mem_append.1 ht with h1 | h1
  · exact .inl ⟨t, h1, hs⟩
  · exact .inr ⟨t, h1, hs⟩
theorem Hul.bnd (H : Hul X Y m h) {l : List Tri3} (B : Bnd m h l) {f j : Nat} (hf : f < h.length) (hj0 : 0 < j) (hj1 : j < h.length) : Bnd (m + 1) (addH h (m + 1) f j) (l ++ addT h (m + 1) f j) := by
  have h3 := H.len
  have ml : ∀ k, k % h.length < h.length := fun k => Nat.mod_lt _ (by omega)
  have le := fun k => H.le _ (ml k)
  have hl := addH_len (h := h) (m + 1) f j
  have tl : (addT h (m + 1) f j).length = j := by unfold addT; simp
  have f0 : gH h f = gH h ((f + 0) % h.length) := by rw [show (f + 0) % h.length = f from Nat.mod_eq_of_lt hf]
  refine ⟨fun a b s => ?_, fun i hi s => ?_, ?_, ?_⟩
  · rcases Sd_app s with s | ⟨t, ht, s⟩
    · have := B.dom a b s; omega
    · obtain ⟨k, hk, rfl⟩ := addT_mem _ _ _ _ ht
      have l1 := le (f + k)
      have l2 := le (f + (k + 1))
      rcases s with ⟨e1, e2⟩ | ⟨e1, e2⟩ | ⟨e1, e2⟩ <;> simp only [] at e1 e2 <;> omega
  · match i, hi with
    | 0, _ =>
      rw [show (0 + 1) % (addH h (m + 1) f j).length = 1 from Nat.mod_eq_of_lt (by omega), addH_1, addH_0] at s
      rcases Sd_app s with s | ⟨t, ht, s⟩
      · have := B.dom _ _ s; omega
      · obtain ⟨k, hk, rfl⟩ := addT_mem _ _ _ _ ht
        have l1 := le (f + k)
        have l2 := le (f + (k + 1))
        rcases s with ⟨e1, e2⟩ | ⟨e1, e2⟩ | ⟨e1, e2⟩ <;> simp only [] at e1 e2
        · omega
        · rw [f0] at e2
          have := H.inj (f := f) (by omega) (by omega) e2; omega
        · omega
    | 1, _ =>
      rw [show (1 + 1) % (addH h (m + 1) f j).length = 0 + 2 from Nat.mod_eq_of_lt (by omega), addH_2 _ _ _ _ (by omega), addH_1, Nat.add_zero] at s
      rcases Sd_app s with s | ⟨t, ht, s⟩
      · have := B.dom _ _ s; omega
      · obtain ⟨k, hk, rfl⟩ := addT_mem _ _ _ _ ht
        have l1 := le (f + k)
        have l2 := le (f + (k + 1))
        rcases s with ⟨e1, e2⟩ | ⟨e1, e2⟩ | ⟨e1, e2⟩ <;> simp only [] at e1 e2
        · have := H.inj (f := f) (by omega) (by omega) e1; omega
        · omega
        · omega
    | c + 2, hi =>
      have hc : c < h.length - j := by omega
      have hnx : gH (addH h (m + 1) f j) ((c + 2 + 1) % (addH h (m + 1) f j).length) = gH h ((f + (j + c + 1)) % h.length) := by
        rcases Nat.lt_or_ge (c + 1) (h.length - j) with h4 | h4
        · rw [Nat.mod_eq_of_lt (by omega), show c + 2 + 1 = (c + 1) + 2 by omega, addH_2 _ _ _ _ h4, show f + j + (c + 1) = f + (j + c + 1) by omega]
        · rw [show c + 2 + 1 = (addH h (m + 1) f j).length by omega, Nat.mod_self, addH_0, show f + (j + c + 1) = f + h.length by omega, Nat.add_mod_right, Nat.mod_eq_of_lt hf]
      rw [hnx, addH_2 _ _ _ _ hc, show f + j + c = f + (j + c) from Nat.add_assoc f j c] at s
      have l3 := le (f + (j + c))
      have l4 := le (f + (j + c + 1))
      rcases Sd_app s with s | ⟨t, ht, s⟩
      · refine B.new ((f + (j + c)) % h.length) (ml _) ?_
        rw [Nat.mod_add_mod]; exact s
      · obtain ⟨k, hk, rfl⟩ := addT_mem _ _ _ _ ht
        have l1 := le (f + k)
        have l2 := le (f + (k + 1))
        rcases s with ⟨e1, e2⟩ | ⟨e1, e2⟩ | ⟨e1, e2⟩ <;> simp only [] at e1 e2
        · omega
        · omega
        · have := H.inj (f := f) (by omega) (by omega) e2; omega
  · rw [List.length_append, tl, hl]; have := B.cnt; omega
  · rw [hl]; have := B.hln; omega
end
section
variable {X Y : Nat → Int} {N : Nat}
theorem gT_line (a q i j k : Nat) : gT X Y i j k * (X q - X a) = (X j - X i) * (gT X Y a q k - gT X Y a q i) - (X k - X i) * (gT X Y a q j - gT X Y a q i) := by unfold gT; grind
/-- the first points lie on one line -/
def gLn (X Y : Nat → Int) (q : Nat) : Prop := ∀ i, i < q → gT X Y 0 1 i = 0
theorem ln_in {q i j k : Nat} (hX : gRis X N) (h1 : 1 < N) (hl : gLn X Y q) (hi : i < q) (hj : j < q) (hk : k < q) : gT X Y i j k = 0 := by
  have e := gT_line (X := X) (Y := Y) 0 1 i j k
  rw [hl i hi, hl j hj, hl k hk] at e
  have := hX 0 1 (by omega) h1
  have e2 : (X 1 - X 0) * gT X Y i j k = 0 := by rw [Int.mul_comm]; simpa using e
  exact g_zero_of (by omega) e2
theorem ln_out {q i j : Nat} (hX : gRis X N) (h1 : 1 < N) (hl : gLn X Y q) (hij : i < j) (hj : j < q) (hq : q < N) : (0 < gT X Y 0 1 q → 0 < gT X Y i j q) ∧ (gT X Y 0 1 q < 0 → gT X Y i j q < 0) := by
  have e := gT_line (X := X) (Y := Y) 0 1 i j q
  rw [hl i (by omega), hl j hj] at e
  have a1 := hX 0 1 (by omega) h1
  have a2 := hX i j hij (by omega)
  have e2 : (X 1 - X 0) * gT X Y i j q = (X j - X i) * gT X Y 0 1 q := by rw [Int.mul_comm]; simpa using e
  constructor
  · intro h
    have := g_mul_pos (show 0 < X j - X i by omega) h
    exact g_pos_of (show 0 < X 1 - X 0 by omega) (by omega)
  · intro h
    have := g_mul_pos (show 0 < X j - X i by omega) (show 0 < -gT X Y 0 1 q by omega)
    have : 0 < (X 1 - X 0) * -gT X Y i j q := by rw [Int.mul_neg] at this ⊢; omega
    have := g_pos_of (show 0 < X 1 - X 0 by omega) this
    omega
theorem gH_up (q i : Nat) : gH (List.range q ++ [q]) i = if i ≤ q then i else 0 := by
  unfold gH
  rw [List.getD_eq_getElem?_getD, ← List.range_succ]
  split
  · rw [List.getElem?_range (by omega)]; rfl
  · rw [List.getElem?_eq_none (by simp; omega)]; rfl
theorem gH_dn (q i : Nat) : gH ((List.range q).reverse ++ [q]) i = if i < q then q - 1 - i else if i = q then q else 0 := by
  unfold gH
  rw [List.getD_eq_getElem?_getD]
  split
  · rename_i h
    rw [List.getElem?_append_left (by simpa using h), List.getElem?_reverse (by simpa using h), List.length_range, List.getElem?_range (by omega)]; rfl
  · rename_i h
    rw [List.getElem?_append_right (by simp; omega), List.length_reverse, List.length_range]
    split
    · rename_i e; rw [e, Nat.sub_self]; rfl
    · rw [List.getElem?_eq_none (by simp; omega)]; rfl
/-- the first hull -/
theorem base_up {q : Nat} (hX : gRis X N) (h2 : 2 ≤ q) (hq : q < N) (hl : gLn X Y q) (hp : 0 < gT X Y 0 1 q) : Hul X Y q (List.range q ++ [q]) := by
  have len : (List.range q ++ [q]).length = q + 1 := by simp
  refine ⟨by omega, fun i j hi hj => ?_, fun i hi => ?_, fun i hi => ?_, ⟨0, by omega, by rw [gH_up, if_pos (by omega)]⟩, ⟨q, by omega, by rw [gH_up, if_pos (by omega)]⟩⟩
  · rw [gH_up, gH_up, if_pos (by omega), if_pos (by omega)]; exact id
  · rw [gH_up, if_pos (by omega)]; omega
  · rw [len] at hi ⊢
    rw [gH_up, if_pos (by omega), gH_up, if_pos (by have := Nat.mod_lt (i + 1) (show 0 < q + 1 by omega); omega)]
    intro k hk
    rcases Nat.lt_or_ge i q with h | h
    · rw [Nat.mod_eq_of_lt (by omega)]
      rcases Nat.lt_or_ge (i + 1) q with h4 | h4
      · rcases Nat.lt_or_ge k q with h3 | h3
        · rw [ln_in hX (by omega) hl h h4 h3]; omega
        · have : k = q := by omega
          subst this
          have := (ln_out hX (by omega) hl (show i < i + 1 by omega) h4 hq).1 hp
          omega
      · have e : i + 1 = q := by omega
        rw [e]
        rcases Nat.lt_trichotomy k i with h3 | h3 | h3
        · have := (ln_out (i := k) (j := i) hX (by omega) hl h3 h hq).1 hp
          rw [← gT_rot k i q] at this
          omega
        · subst h3; rw [gT_end1]; omega
        · have : k = q := by omega
          subst this; rw [gT_end2]; omega
    · have e : i = q := by omega
      subst e
      rw [Nat.mod_self]
      rcases Nat.eq_zero_or_pos k with h3 | h3
      · subst h3; rw [gT_end2]; omega
      · rcases Nat.lt_or_ge k i with h4 | h4
        · have := (ln_out (i := 0) (j := k) hX (by omega) hl h3 h4 hq).1 hp
          rw [← gT_rot, ← gT_rot] at this
          rw [gT_rot, gT_rot] at this
          have e3 : gT X Y i 0 k = gT X Y 0 k i := by rw [← gT_rot i 0 k]
          omega
        · have : k = i := by omega
          subst this; rw [gT_end1]; omega
  
theorem base_dn {q : Nat} (hX : gRis X N) (h2 : 2 ≤ q) (hq : q < N) (hl : gLn X Y q) (hp : gT X Y 0 1 q < 0) : Hul X Y q ((List.range q).reverse ++ [q]) := by
  have len : ((List.range q).reverse ++ [q]).length = q + 1 := by simp
  have g1 : ∀ i, i < q → gH ((List.range q).reverse ++ [q]) i = q - 1 - i := fun i h => by rw [gH_dn, if_pos h]
  have g2 : gH ((List.range q).reverse ++ [q]) q = q := by rw [gH_dn, if_neg (by omega), if_pos rfl]
  refine ⟨by omega, fun i j hi hj => ?_, fun i hi => ?_, fun i hi => ?_, ⟨q - 1, by omega, by rw [g1 _ (by omega)]; omega⟩, ⟨q, by omega, g2⟩⟩
  · rw [gH_dn, gH_dn]; intro h; split at h <;> split at h <;> (try split at h) <;> (try split at h) <;> omega
  · rw [gH_dn]; split <;> (try split) <;> omega
  · rw [len] at hi ⊢
    intro k hk
    rcases Nat.lt_or_ge i q with h | h
    · rw [Nat.mod_eq_of_lt (by omega), g1 i h]
      rcases Nat.lt_or_ge (i + 1) q with h4 | h4
      · rw [g1 _ h4]
        obtain ⟨b, hb⟩ : ∃ b, b = q - 1 - (i + 1) := ⟨_, rfl⟩
        rw [← hb, show q - 1 - i = b + 1 by omega]
        rcases Nat.lt_or_ge k q with h3 | h3
        · rw [ln_in hX (by omega) hl (by omega) (by omega) h3]; omega
        · have : k = q := by omega
          subst this
          have := (ln_out hX (by omega) hl (show b < b + 1 by omega) (by omega) hq).2 hp
          rw [gT_swap b (b + 1)]
          omega
      · have e : i + 1 = q := by omega
        rw [e, g2, show q - 1 - i = 0 by omega]
        rcases Nat.eq_zero_or_pos k with h3 | h3
        · subst h3; rw [gT_end1]; omega
        · rcases Nat.lt_or_ge k q with h5 | h5
          · have := (ln_out (i := 0) (j := k) hX (by omega) hl h3 h5 hq).2 hp
            have e3 : gT X Y 0 q k = -gT X Y 0 k q := by unfold gT; grind
            omega
          · have : k = q := by omega
            subst this; rw [gT_end2]; omega
    · have e : i = q := by omega
      subst e
      rw [Nat.mod_self, g2, g1 0 (by omega), Nat.sub_zero]
      rcases Nat.lt_trichotomy k (i - 1) with h3 | h3 | h3
      · have := (ln_out (i := k) (j := i - 1) hX (by omega) hl h3 (by omega) hq).2 hp
        have e3 : gT X Y i (i - 1) k = -gT X Y k (i - 1) i := by unfold gT; grind
        omega
      · subst h3; rw [gT_end2]; omega
      · have : k = i := by omega
        subst this; rw [gT_end1]; omega
theorem begT_get (b : List Nat) (q k : Nat) (t : Tri3) (ht : (begT b q)[k]? = some t) : k < q - 1 ∧ t = (gH b k, gH b (k + 1), q) := by
  unfold begT at ht
  rw [List.getElem?_map] at ht
  rcases Nat.lt_or_ge k (q - 1) with hk | hk
  · rw [List.getElem?_range hk] at ht
    injection ht with ht
    exact ⟨hk, ht.symm⟩
  · rw [List.getElem?_eq_none (by simpa using hk)] at ht; cases ht
theorem gH_app (b : List Nat) (q i : Nat) (h : i < b.length) : gH (b ++ [q]) i = gH b i := by
  unfold gH
  rw [List.getD_eq_getElem?_getD, List.getD_eq_getElem?_getD, List.getElem?_append_left h]
theorem gH_app2 (b : List Nat) (q : Nat) : gH (b ++ [q]) b.length = q := by
  unfold gH
  rw [List.getD_eq_getElem?_getD, List.getElem?_append_right (Nat.le_refl _), Nat.sub_self]; rfl
/-- the first triangles, of any first hull -/
theorem beg_fresh {b : List Nat} {q : Nat} (h2 : 2 ≤ q) (hq : q < N) (hb : b.length = q) (hi : ∀ i j, i < q → j < q → gH b i = gH b j → i = j) (hl : ∀ i, i < q → gH b i < q) :
    Fresh N (fun _ _ => False) (begT b q) ∧ Bnd q (b ++ [q]) (begT b q) := by
  constructor
  · refine fresh_of N _ _ (fun k t ht => ?_) (fun k k' t t' hk ht ht' => ?_)
    · obtain ⟨hk, rfl⟩ := begT_get _ _ _ _ ht
      have l1 := hl k (by omega)
      have l2 := hl (k + 1) (by omega)
      refine ⟨by show gH b _ < N; omega, by show gH b _ < N; omega, hq, fun e => ?_, ?_, ?_, id, id, id⟩
      · have := hi _ _ (by omega) (by omega) e; omega
      · show gH b _ ≠ q; omega
      · show gH b _ ≠ q; omega
    · obtain ⟨hk1, rfl⟩ := begT_get _ _ _ _ ht
      obtain ⟨hk2, rfl⟩ := begT_get _ _ _ _ ht'
      have l1 := hl k (by omega)
      have l2 := hl (k + 1) (by omega)
      have l3 := hl k' (by omega)
      have l4 := hl (k' + 1) (by omega)
      refine ⟨?_, ?_, ?_⟩ <;> rintro (⟨e1, e2⟩ | ⟨e1, e2⟩ | ⟨e1, e2⟩) <;> simp only [] at e1 e2
      all_goals first
        | omega
        | (have := hi _ _ (by omega) (by omega) e1; omega)
        | (have := hi _ _ (by omega) (by omega) e2; omega)
  · have tl : (begT b q).length = q - 1 := by unfold begT; simp
    have ll : (b ++ [q]).length = q + 1 := by simp [hb]
    refine ⟨fun x y ⟨t, ht, s⟩ => ?_, fun i hi' s => ?_, by rw [tl, ll]; omega, by rw [ll]; omega⟩
    · obtain ⟨k, hk⟩ := List.mem_iff_getElem?.1 ht
      obtain ⟨hk, rfl⟩ := begT_get _ _ _ _ hk
      have l1 := hl k (by omega)
      have l2 := hl (k + 1) (by omega)
      rcases s with ⟨e1, e2⟩ | ⟨e1, e2⟩ | ⟨e1, e2⟩ <;> simp only [] at e1 e2 <;> omega
    · obtain ⟨t, ht, s⟩ := s
      obtain ⟨k, hk⟩ := List.mem_iff_getElem?.1 ht
      obtain ⟨hk, rfl⟩ := begT_get _ _ _ _ hk
      have l1 := hl k (by omega)
      have l2 := hl (k + 1) (by omega)
      rw [ll] at s hi'
      have gq : gH (b ++ [q]) q = q := by have := gH_app2 b q; rwa [hb] at this
      rcases Nat.lt_or_ge i q with h | h
      · rw [Nat.mod_eq_of_lt (by omega), gH_app _ _ i (by omega)] at s
        have l3 := hl i h
        rcases Nat.lt_or_ge (i + 1) q with h4 | h4
        · rw [gH_app _ _ _ (by omega)] at s
          have l4 := hl (i + 1) h4
          rcases s with ⟨e1, e2⟩ | ⟨e1, e2⟩ | ⟨e1, e2⟩ <;> simp only [] at e1 e2
          · have a := hi _ _ (by omega) (by omega) e1
            have := hi _ _ (by omega) (by omega) e2; omega
          · omega
          · omega
        · rw [show i + 1 = q by omega, gq] at s
          rcases s with ⟨e1, e2⟩ | ⟨e1, e2⟩ | ⟨e1, e2⟩ <;> simp only [] at e1 e2
          · omega
          · omega
          · have := hi _ _ (by omega) (by omega) e2; omega
      · have e : i = q := by omega
        subst e
        rw [Nat.mod_self, gq, gH_app _ _ _ (by omega)] at s
        have l3 := hl 0 (by omega)
        rcases s with ⟨e1, e2⟩ | ⟨e1, e2⟩ | ⟨e1, e2⟩ <;> simp only [] at e1 e2
        · omega
        · have := hi _ _ (by omega) (by omega) e1; omega
        · omega
end
/-- X, Y: strictly rising; X0, Y0: the points; the signs agree -/
theorem bld_all {X Y X0 Y0 : Nat → Int} {N q : Nat} (hX : gRis X N) (hs : ∀ a b c, a < N → b < N → c < N → (wy X0 Y0 a b c < 0 ↔ gT X Y a b c < 0) ∧ (wy X0 Y0 a b c = 0 ↔ gT X Y a b c = 0))
    (h2 : 2 ≤ q) (hq : q < N) (hl : ∀ i, 2 ≤ i → i < q → wy X0 Y0 0 1 i = 0) (hn : wy X0 Y0 0 1 q ≠ 0) :
    ∀ k, q + k < N → Hul X Y (q + k) (bld X0 Y0 q k).1 ∧ Bnd (q + k) (bld X0 Y0 q k).1 (bld X0 Y0 q k).2 ∧ Fresh N (fun _ _ => False) (bld X0 Y0 q k).2 := by
  have hL : gLn X Y q := fun i hi => by
    rcases Nat.lt_or_ge i 2 with h | h
    · have : i = 0 ∨ i = 1 := by omega
      rcases this with rfl | rfl
      · exact gT_end1 _ _
      · exact gT_end2 _ _
    · exact (hs 0 1 i (by omega) (by omega) (by omega)).2.1 (hl i h hi)
  have hsg : ∀ k, q + k < N → ∀ {h : List Nat}, Hul X Y (q + k) h → q + k + 1 < N → ∀ i, i < h.length → sE X0 Y0 h (q + k + 1) i = gsn X Y h (q + k + 1) i := by
    intro k hk h H hp i hi
    have h3 := H.len
    have l1 := H.le i hi
    have l2 := H.le ((i + 1) % h.length) (Nat.mod_lt _ (by omega))
    unfold sE gsn
    have := (hs (gH h i) (gH h ((i + 1) % h.length)) (q + k + 1) (by omega) (by omega) hp).1
    exact decide_eq_decide.2 this
  intro k
  induction k with
  | zero =>
    intro _
    show Hul X Y q (begH X0 Y0 q ++ [q]) ∧ Bnd q (begH X0 Y0 q ++ [q]) (begT (begH X0 Y0 q) q) ∧ Fresh N _ (begT (begH X0 Y0 q) q)
    have hc := hs 0 1 q (by omega) (by omega) hq
    unfold begH
    split
    · rename_i hh
      have H := base_dn hX h2 hq hL (hc.1.1 hh)
      have g1 : ∀ i, i < q → gH (List.range q).reverse i = q - 1 - i := fun i h => by rw [← gH_app _ q i (by simpa using h), gH_dn, if_pos h]
      have := beg_fresh (N := N) (b := (List.range q).reverse) h2 hq (by simp) (fun i j hi hj e => by rw [g1 i hi, g1 j hj] at e; omega) (fun i hi => by rw [g1 i hi]; omega)
      exact ⟨H, this.2, this.1⟩
    · rename_i hh
      have H := base_up hX h2 hq hL (by have a := mt hc.1.2 hh; have b := mt hc.2.2 hn; omega)
      have g1 : ∀ i, i < q → gH (List.range q) i = i := fun i h => by rw [← gH_app _ q i (by simpa using h), gH_up, if_pos (by omega)]
      have := beg_fresh (N := N) (b := List.range q) h2 hq (by simp) (fun i j hi hj e => by rw [g1 i hi, g1 j hj] at e; omega) (fun i hi => by rw [g1 i hi]; omega)
      exact ⟨H, this.2, this.1⟩
  | succ k ih =>
    intro hk
    obtain ⟨H, B, F⟩ := ih (by omega)
    have ho := H.addok hX (p := q + k + 1) (Nat.lt_succ_self _) hk (by omega) (hsg k (by omega) H hk)
    have hg := hsg k (by omega) H hk
    have h3 := H.len
    obtain ⟨A, off⟩ := ho
    have ml : ∀ k', k' % (bld X0 Y0 q k).1.length < (bld X0 Y0 q k).1.length := fun k' => Nat.mod_lt _ (by omega)
    refine ⟨H.next hX hk (by omega) A.f0 A.j0 A.j1 (by rw [← hg _ (pred_lt A.f0)]; exact A.at0) (fun k' h' => by rw [← hg _ (ml _)]; exact A.run k' h') off, H.bnd B A.f0 A.j0 A.j1, ?_⟩
    show Fresh N _ ((bld X0 Y0 q k).2 ++ addT _ _ _ _)
    rw [fresh_app]
    refine ⟨F, (fresh_cong N _ _ _ fun a b => ?_).1 (H.putok B hk A.j1)⟩
    exact ⟨.inr, fun c => c.elim False.elim id⟩
/-- and each next point is added -/
theorem bld_add {X Y X0 Y0 : Nat → Int} {N q : Nat} (hX : gRis X N) (hs : ∀ a b c, a < N → b < N → c < N → (wy X0 Y0 a b c < 0 ↔ gT X Y a b c < 0) ∧ (wy X0 Y0 a b c = 0 ↔ gT X Y a b c = 0))
    (h2 : 2 ≤ q) (hq : q < N) (hl : ∀ i, 2 ≤ i → i < q → wy X0 Y0 0 1 i = 0) (hn : wy X0 Y0 0 1 q ≠ 0) (k : Nat) (hk : q + k + 1 < N) :
    AddOk X0 Y0 (bld X0 Y0 q k).1 (q + k + 1) (firstI X0 Y0 (bld X0 Y0 q k).1 (q + k + 1)) (runJ X0 Y0 (bld X0 Y0 q k).1 (q + k + 1) (firstI X0 Y0 (bld X0 Y0 q k).1 (q + k + 1))) := by
  obtain ⟨H, _, _⟩ := bld_all hX hs h2 hq hl hn k (by omega)
  have h3 := H.len
  refine (H.addok hX (p := q + k + 1) (Nat.lt_succ_self _) hk (by omega) fun i hi => ?_).1
  have l1 := H.le i hi
  have l2 := H.le ((i + 1) % (bld X0 Y0 q k).1.length) (Nat.mod_lt _ (by omega))
  exact decide_eq_decide.2 (hs (gH (bld X0 Y0 q k).1 i) (gH (bld X0 Y0 q k).1 ((i + 1) % (bld X0 Y0 q k).1.length)) (q + k + 1) (by omega) (by omega) hk).1
end Go.Proofs.Ytdlpfiiakmhnlaa

namespace Go.Proofs.Ytdlpfiiakmhnlaa
open Go.RowKit

/-- the rows hold just the sides S -/
def RepS (O : Nat → List (Nat × Nat)) (S : Nat → Nat → Prop) : Prop := (∀ a, SortH (O a)) ∧ ∀ a b : Nat, lookH (O a) b = none ↔ ¬ S a b
theorem rep_put1 {O : Nat → List (Nat × Nat)} {S : Nat → Nat → Prop} (h : RepS O S) {a b c : Nat} (hn : ¬ S a b) : RepS (put1 O a b c) (fun x y => S x y ∨ (x = a ∧ y = b)) := by
  have hl := (h.2 a b).2 hn
  refine ⟨fun x => ?_, fun x y => ?_⟩
  · unfold put1
    split
    · exact insH_sort (h.1 a) (lookH_absent hl)
    · exact h.1 x
  · unfold put1
    split
    · rename_i e
      subst e
      rw [lookH_ins (h.1 x) hl]
      split
      · rename_i e2
        subst e2
        constructor
        · intro e3; cases e3
        · intro e3; exact absurd (.inr ⟨rfl, rfl⟩) e3
      · rename_i e2
        rw [h.2 x y]
        constructor
        · rintro e3 (e4 | ⟨_, e4⟩)
          · exact e3 e4
          · exact e2 e4
        · intro e3 e4; exact e3 (.inl e4)
    · rename_i e
      rw [h.2 x y]
      constructor
      · rintro e3 (e4 | ⟨e4, _⟩)
        · exact e3 e4
        · exact e e4
      · intro e3 e4; exact e3 (.inl e4)
theorem rep_cong {O : Nat → List (Nat × Nat)} {S S' : Nat → Nat → Prop} (h : RepS O S) (he : ∀ a b, S a b ↔ S' a b) : RepS O S' := ⟨h.1, fun a b => (h.2 a b).trans (not_congr (he a b))⟩
theorem rep_putT {N : Nat} {O : Nat → List (Nat × Nat)} {S : Nat → Nat → Prop} (h : RepS O S) {t : Tri3} (ht : okT N S t) : RepS (putT O t.1 t.2.1 t.2.2) (fun x y => S x y ∨ gsd t x y) := by
  obtain ⟨_, _, _, n1, n2, n3, s1, s2, s3⟩ := ht
  have h1 := rep_put1 (c := t.2.2) h s1
  have h2 := rep_put1 (a := t.2.1) (b := t.2.2) (c := t.1) h1 (by rintro (e | ⟨e, _⟩); exact s2 e; exact n1 e.symm)
  have h3 := rep_put1 (a := t.2.2) (b := t.1) (c := t.2.1) h2 (by rintro ((e | ⟨e, _⟩) | ⟨e, _⟩); exact s3 e; exact n3 e.symm; exact n2 e.symm)
  refine rep_cong h3 fun a b => ?_
  unfold gsd
  constructor
  · rintro (((e | e) | e) | e)
    · exact .inl e
    · exact .inr (.inl e)
    · exact .inr (.inr (.inl e))
    · exact .inr (.inr (.inr e))
  · rintro (e | e | e | e)
    · exact .inl (.inl (.inl e))
    · exact .inl (.inl (.inr e))
    · exact .inl (.inr e)
    · exact .inr e
theorem putok_fresh {N : Nat} : ∀ (l : List Tri3) {O : Nat → List (Nat × Nat)} {S : Nat → Nat → Prop}, RepS O S → Fresh N S l → PutOk N O l := by
  intro l
  induction l with
  | nil => intro O S _ _; trivial
  | cons t l ih =>
    intro O S h hf
    obtain ⟨h1, h2⟩ := hf
    have hr := rep_putT h h1
    obtain ⟨a1, a2, a3, a4, a5, a6, a7, a8, a9⟩ := h1
    exact ⟨⟨a1, a2, a3, a4, a5, a6, (h.2 _ _).2 a7, (h.2 _ _).2 a8, (h.2 _ _).2 a9⟩, ih hr h2⟩
theorem rep_all {N : Nat} : ∀ (l : List Tri3) {O : Nat → List (Nat × Nat)} {S : Nat → Nat → Prop}, RepS O S → Fresh N S l → RepS (putAll O l) (fun a b => S a b ∨ gSd l a b) := by
  intro l
  induction l with
  | nil => intro O S h _; exact rep_cong h fun a b => ⟨.inl, fun c => c.elim id fun ⟨t, ht, _⟩ => by cases ht⟩
  | cons t l ih =>
    intro O S h hf
    refine rep_cong (ih (rep_putT h hf.1) hf.2) fun a b => ?_
    constructor
    · rintro ((c | c) | ⟨u, hu, c⟩)
      · exact .inl c
      · exact .inr ⟨t, List.mem_cons_self .., c⟩
      · exact .inr ⟨u, List.mem_cons_of_mem _ hu, c⟩
    · rintro (c | ⟨u, hu, c⟩)
      · exact .inl (.inl c)
      · rcases List.mem_cons.1 hu with rfl | hu
        · exact .inl (.inr c)
        · exact .inr ⟨u, hu, c⟩
theorem rep_none : RepS (fun _ => []) (fun _ _ => False) := ⟨fun _ j k x y _ h => by simp at h, fun a b => ⟨fun _ h => h, fun _ => rfl⟩⟩
theorem allC_rpT {n : Nat} {X Y : Nat → Int} (h : allC n X Y = true) {i : Nat} (hi : i < n) : rp (X i) (Y i) = true := by
  unfold allC at h
  exact List.all_eq_true.1 h i (List.mem_range.2 hi)
/-- coordinates that rise strictly -/
def sX (X Y : Nat → Int) : Nat → Int := fun i => 4398046511105 * X i + Y i
theorem sX_T (X Y : Nat → Int) (a b c : Nat) : gT (sX X Y) Y a b c = 4398046511105 * gT X Y a b c := by unfold gT sX; grind
theorem sX_step {ax ay bx b_y : Int} (h1 : -2199023255552 ≤ ay) (h2 : ay ≤ 2199023255552) (h3 : -2199023255552 ≤ b_y) (h4 : b_y ≤ 2199023255552) (hc : cmpP ax ay bx b_y < 0) : 4398046511105 * ax + ay < 4398046511105 * bx + b_y := by
  unfold cmpP or2 cmpI at hc
  by_cases e1 : ax < bx
  · omega
  · by_cases e2 : ax = bx
    · subst e2
      simp at hc
      split at hc
      · omega
      · split at hc <;> simp at hc
    · simp [e1, e2] at hc
theorem sX_ris {N : Nat} {X Y : Nat → Int} (hg : allC N X Y = true) (hr : risC N X Y) : gRis (sX X Y) N := by
  have step : ∀ i, i + 1 < N → sX X Y i < sX X Y (i + 1) := fun i hi => by
    have a := (rp_co (allC_rpT hg (show i < N by omega))).2
    have b := (rp_co (allC_rpT hg hi)).2
    exact sX_step a.1 a.2 b.1 b.2 (hr i hi)
  intro i j hij
  induction j with
  | zero => omega
  | succ j ih =>
    intro hj
    rcases Nat.lt_or_ge i j with h | h
    · exact Int.lt_trans (ih h (by omega)) (step j hj)
    · rw [show i = j by omega]; exact step j hj
theorem wy_sgn {N : Nat} {X Y : Nat → Int} (hg : allC N X Y = true) {a b c : Nat} (ha : a < N) (hb : b < N) (hc : c < N) : wy X Y a b c = (gT X Y a b c).sign := by
  unfold wy way rp3
  rw [allC_rpT hg ha, allC_rpT hg hb, allC_rpT hg hc]
  rfl
theorem wy_gT {N : Nat} {X Y : Nat → Int} (hg : allC N X Y = true) (a b c : Nat) (ha : a < N) (hb : b < N) (hc : c < N) :
    (wy X Y a b c < 0 ↔ gT (sX X Y) Y a b c < 0) ∧ (wy X Y a b c = 0 ↔ gT (sX X Y) Y a b c = 0) := by
  rw [wy_sgn hg ha hb hc, sX_T]
  rcases Int.lt_trichotomy (gT X Y a b c) 0 with h | h | h
  · rw [Int.sign_eq_neg_one_of_neg h]; omega
  · rw [h]; simp
  · rw [Int.sign_eq_one_of_pos h]; omega
theorem mem_gH {h : List Nat} {x : Nat} (hx : x ∈ h) : ∃ i, i < h.length ∧ gH h i = x := by
  obtain ⟨i, hi, e⟩ := List.getElem_of_mem hx
  refine ⟨i, hi, ?_⟩
  unfold gH
  rw [List.getD_eq_getElem?_getD, List.getElem?_eq_getElem hi, e]; rfl
/-- the builder's state behind q + k points -/
theorem bld_st {N q : Nat} {X Y : Nat → Int} (hg : allC N X Y = true) (hr : risC N X Y) (hl : isLn N X Y q) (hq : q < N) (k : Nat) (hk : q + k < N) :
    Hul (sX X Y) Y (q + k) (bld X Y q k).1 ∧ Bnd (q + k) (bld X Y q k).1 (bld X Y q k).2 ∧ Fresh N (fun _ _ => False) (bld X Y q k).2 :=
  bld_all (sX_ris hg hr) (wy_gT hg) (by have := hl.1; omega) hq (fun i h1 h2 => hl.2.2.1 i h1 h2) (hl.2.2.2 hq) k hk
theorem bld_ok {N q : Nat} {X Y : Nat → Int} (hN : N ≤ 4096) (hg : allC N X Y = true) (hr : risC N X Y) (hl : isLn N X Y q) (hq : q < N) : BldOk N X Y q := by
  have st := bld_st hg hr hl hq
  refine ⟨fun k hk => putok_fresh _ rep_none (st k hk).2.2, fun k hk x hx => ?_, fun k hk => bld_add (sX_ris hg hr) (wy_gT hg) (by have := hl.1; omega) hq (fun i h1 h2 => hl.2.2.1 i h1 h2) (hl.2.2.2 hq) k hk, fun k hk => ?_, fun k hk => ?_⟩
  · obtain ⟨i, hi, rfl⟩ := mem_gH hx
    have := (st k hk).1.le i hi; omega
  · have := (st k hk).2.1.hln; omega
  · have := (st k hk).2.1.cnt; omega
/-- what Build puts -/
def bldT (N : Nat) (X Y : Nat → Int) (q : Nat) : List Tri3 := if q = N then [] else (bld X Y q (N - 1 - q)).2
set_option maxRecDepth 100000 in
theorem Build_is (ao : Option Addr) (N cap : Nat) (X Y : Nat → Int) (w : World) (h : Pts w ao N cap X Y) (hN : N ≤ 4096) (hg : allC N X Y = true) (hr : risC N X Y) :
    Calls Try.prog 12 #[.slice ao N cap] w fun e w' => ∃ (t : Nat) (D : SD) (q : Nat), e = .returned (.tuple #[ptr t 0, .int .i64 0]) ∧ isLn N X Y q ∧
      SM w' t D N X Y (putAll (fun _ => []) (bldT N X Y q)) ((bldT N X Y q).length : Nat) ∧ (∀ g, D.has t N g → w.heap.size ≤ g) ∧ Below w.heap.size w w' := by
  refine (Build_ok ao N cap X Y w h hN hg hr fun q hl hq => bld_ok hN hg hr hl hq).mono ?_
  rintro e w' ⟨t, D, q, he, hl, hs, h1, h2⟩
  refine ⟨t, D, q, he, hl, ?_, h1, h2⟩
  unfold bldT
  by_cases hqn : q = N
  · rw [if_pos hqn] at hs ⊢
    rw [if_pos hqn] at hs
    exact hs
  · rw [if_neg hqn] at hs ⊢
    rw [if_neg hqn] at hs
    exact hs
end Go.Proofs.Ytdlpfiiakmhnlaa

namespace Go.Proofs.Ytdlpfiiakmhnlaa
open Go.RowKit

set_option maxRecDepth 100000 in
set_option maxHeartbeats 4000000 in
theorem Build_fall (ao : Option Addr) (N cap : Nat) (X Y : Nat → Int) (w : World) (h : Pts w ao N cap X Y) (hN : N ≤ 4096) (hg : allC N X Y = true) (hr : ¬ risC N X Y) :
    Calls Try.prog 12 #[.slice ao N cap] w fun e w' => e = .returned (.tuple #[.pointer none, .int .i64 10]) ∧ Below w.heap.size w w' := by
  have hcl := h.capl
  have hcb := h.capb
  have HO := Lib.hid h
  have HG := Lib.hid hg
  have HR := Lib.hid hr
  clear h hg hr
  go_enter Try.func12, Try.ntmps12
  go_wp2_with fail
  go_loopg [15] N (fun gk s15 wr => ∃ k : Nat, s15 = .int .i64 k ∧ k ≤ N ∧ N - k ≤ gk ∧ Hid (Below w.heap.size w wr))
  case atStart => exact ⟨0, rfl, Nat.zero_le _, by omega, Lib.hid (Below.refl _ _)⟩
  case round =>
    obtain ⟨k, rfl, hk, hgk, HW⟩ := hrel
    by_cases hlt : k < N
    · obtain ⟨a, rfl, p0, p1⟩ := HO.out.at HW.out hlt
      obtain ⟨px, hpx⟩ : ∃ x, X k = x := ⟨_, rfl⟩
      obtain ⟨py, hpy⟩ : ∃ x, Y k = x := ⟨_, rfl⟩
      have hrp : rp px py = true := by rw [← hpx, ← hpy]; exact List.all_eq_true.1 (by have := HG.out; unfold allC at this; exact this) k (List.mem_range.2 hlt)
      rw [hpx] at p0
      rw [hpy] at p1
      have HRP := Lib.hid hrp
      clear hpx hpy hrp
      go_wp2_with fail
      refine calls_w ?_
      intro V hV
      have hbV : Below wr.heap.size wr V := by rw [hV]; exact below_a1 _ _
      clear hV p0 p1
      have hpr := PtRight_any px py V
      rw [show (inC px && inC py) = true from HRP.out] at hpr
      refine hpr.mono ?_
      rintro e W2 ⟨rfl, hn⟩
      have HW2 := Lib.hid ((HW.out.trans (hbV.mono HW.out.size)).trans (hn.mono (HW.out.trans (hbV.mono HW.out.size)).size))
      clear hn hbV HW hpr
      go_wp2_with fail
      go_roundg (N - (k + 1))
      case measure => omega
      case rel => exact ⟨k + 1, by norm_cast, by omega, Nat.le_refl _, HW2⟩
    · go_wp2_with fail
      clear hk hgk hlt
      go_loopg [6] N (fun gk s6 wr => ∃ k : Nat, s6 = .int .i64 k ∧ 1 ≤ k ∧ (k ≤ N ∨ k = 1) ∧ N - k ≤ gk ∧ Hid (∀ i, i + 1 < k → cmpP (X i) (Y i) (X (i + 1)) (Y (i + 1)) < 0) ∧ Hid (Below w.heap.size w wr))
      case atStart => exact ⟨1, rfl, Nat.le_refl _, .inr rfl, by omega, Lib.hid (fun i hi => by omega), HW⟩
      case round =>
        clear HW
        obtain ⟨k, rfl, hk1, hk, hgk, HS, HW⟩ := hrel
        by_cases hlt : k < N
        · obtain ⟨i, rfl⟩ : ∃ i, k = i + 1 := ⟨k - 1, by omega⟩
          obtain ⟨pa, rfl, hpt⟩ := (HO.out.of HW.out).atP (by omega)
          have qa := hpt i (by omega)
          have qb := hpt (i + 1) hlt
          obtain ⟨ax, hax⟩ : ∃ x, X i = x := ⟨_, rfl⟩
          obtain ⟨ay, hay⟩ : ∃ x, Y i = x := ⟨_, rfl⟩
          obtain ⟨bx, hbx⟩ : ∃ x, X (i + 1) = x := ⟨_, rfl⟩
          obtain ⟨b_y, hby⟩ : ∃ x, Y (i + 1) = x := ⟨_, rfl⟩
          rw [hax, hay] at qa
          rw [hbx, hby] at qb
          have qa0 := fun u => (qa u).1
          have qa1 := fun u => (qa u).2
          have qb0 := fun u => (qb u).1
          have qb1 := fun u => (qb u).2
          obtain ⟨r, hr⟩ : ∃ r, cmpP ax ay bx b_y = r := ⟨_, rfl⟩
          have HCM := Lib.hid (show cmpP (X i) (Y i) (X (i + 1)) (Y (i + 1)) = r by rw [hax, hay, hbx, hby]; exact hr)
          have HC := Lib.hid hr
          have hii : ((i + 1 : Nat) : Int) - 1 = (i : Int) := by omega
          clear hpt qa qb hax hay hbx hby hr
          have hbk := HW.out
          go_wp2_with fail
          refine wp_region_up wr.heap.size 9 [(true, 0), (true, 1), (true, 2), (true, 3), (true, 4), (true, 5), (true, 6), (true, 7), (true, 8)] (by kernel_rfl) (by kernel_rfl) (fun _ _ d _ _ h => by cases d <;> exact h) ?_
          have hb : Below wr.heap.size wr wr.drew := (Below.refl _ _).drew
          iterate 9
            first | refine wpS_takeL rfl rfl ?_ | refine wpS_takeB rfl rfl rfl ?_
            first | go_big_quiet_step (rfl) | (go_big_quiet_want; go_big_quiet_op; refine ⟨_, fun _ => rfl, ?_⟩; go_big_quiet_on)
            refine wpQuiet_nil ?_
          refine wpS_nil ?_
          simp only [List.drop_succ_cons, List.drop_zero]
          go_wp2_with fail
          refine (PtCmp_is ax ay bx b_y r HC.out _).mono ?_
          rintro e W2 ⟨rfl, hn⟩
          have HW2 := Lib.hid ((hbk.trans (hb.mono hbk.size)).trans (hn.mono (hbk.trans (hb.mono hbk.size)).size))
          clear hn hb hbk HW qa0 qa1 qb0 qb1
          by_cases hrn : 0 ≤ r
          · go_wp2
            simp [bodyPost, results, Try.results12, go_sem]
            exact HW2.out
          · have HS2 := Lib.hid (show ∀ j, j + 1 < i + 1 + 1 → cmpP (X j) (Y j) (X (j + 1)) (Y (j + 1)) < 0 from fun j hj => by
              rcases Nat.lt_or_ge (j + 1) (i + 1) with h4 | h4
              · exact HS.out j h4
              · rw [show j = i by omega, HCM.out]; omega)
            go_wp2_with fail
            go_roundg (N - (i + 1 + 1))
            case measure => omega
            case rel => exact ⟨i + 1 + 1, by norm_cast, by omega, by omega, Nat.le_refl _, HS2, HW2⟩
        · exfalso
          exact HR.out fun j hj => HS.out j (by omega)
end Go.Proofs.Ytdlpfiiakmhnlaa

namespace Go.Proofs.Ytdlpfiiakmhnlaa
open Go.RowKit

/-- are the first k points right, and do they rise? -/
def rsP (k : Nat) (X Y : Nat → Int) : Prop := ∀ i, i < k → rp (X i) (Y i) = true ∧ (0 < i → ahd (X (i - 1)) (Y (i - 1)) (X i) (Y i) = true)
theorem rsP_up {k : Nat} {X Y : Nat → Int} (h : rsP k X Y) (h1 : rp (X k) (Y k) = true) (h2 : 0 < k → ahd (X (k - 1)) (Y (k - 1)) (X k) (Y k) = true) : rsP (k + 1) X Y := by
  intro i hi
  rcases Nat.lt_or_ge i k with h3 | h3
  · exact h i h3
  · rw [show i = k by omega]; exact ⟨h1, h2⟩
theorem ahd_cmp {ax ay bx b_y : Int} : ahd ax ay bx b_y = true ↔ cmpP ax ay bx b_y < 0 := by
  unfold ahd cmpP or2 cmpI
  by_cases e1 : ax < bx
  · simp [e1]
  · by_cases e2 : ax = bx
    · subst e2
      by_cases e3 : ay < b_y
      · simp [e3]
      · by_cases e4 : ay = b_y <;> simp [e3, e4]
    · simp [e1, e2]
theorem rsP_ris {N : Nat} {X Y : Nat → Int} : rsP N X Y ↔ allC N X Y = true ∧ risC N X Y := by
  constructor
  · intro h
    refine ⟨?_, fun i hi => ?_⟩
    · unfold allC
      exact List.all_eq_true.2 fun i hi => (h i (List.mem_range.1 hi)).1
    · exact ahd_cmp.1 ((h (i + 1) hi).2 (by omega))
  · rintro ⟨h1, h2⟩ i hi
    refine ⟨allC_rpT h1 hi, fun h0 => ?_⟩
    have := h2 (i - 1) (by omega)
    rw [show i - 1 + 1 = i by omega] at this
    exact ahd_cmp.2 this
theorem rRight_is (x y : Int) (g : Bool) (hg : rp x y = g) (w : World) : Calls Try.prog 38 #[pI x y] w fun e w' => e = .returned (.bool g) ∧ Below w.heap.size w w' := by
  rw [← hg]; exact rRight_any x y w
theorem Ahead_is (ax ay bx b_y : Int) (g : Bool) (hg : ahd ax ay bx b_y = g) (w : World) : Calls Try.prog 39 #[pI ax ay, pI bx b_y] w fun e w' => e = .returned (.bool g) ∧ Below w.heap.size w w' := by
  rw [← hg]; exact Ahead_any ax ay bx b_y w
set_option maxRecDepth 100000 in
set_option maxHeartbeats 4000000 in
theorem rising_is (ao : Option Addr) (N cap : Nat) (X Y : Nat → Int) (w : World) (h : Pts w ao N cap X Y) (hN : N ≤ 4096) :
    Calls Try.prog 10 #[.slice ao N cap] w fun e w' => ∃ b, e = .returned (.bool b) ∧ (b = true ↔ rsP N X Y) ∧ Below w.heap.size w w' := by
  have hcl := h.capl
  have hcb := h.capb
  have HO := Lib.hid h
  clear h
  go_enter Try.func10, Try.ntmps10
  go_wp2_with fail
  go_loopg [7] N (fun gk s7 wr => ∃ k : Nat, s7 = .int .i64 k ∧ k ≤ N ∧ N - k ≤ gk ∧ Hid (rsP k X Y) ∧ Hid (Below w.heap.size w wr))
  case atStart => exact ⟨0, rfl, Nat.zero_le _, by omega, Lib.hid (fun i hi => by omega), Lib.hid (Below.refl _ _)⟩
  case round =>
    obtain ⟨k, rfl, hk, hgk, HA, HW⟩ := hrel
    by_cases hlt : k < N
    · obtain ⟨pa, rfl, p0, p1⟩ := HO.out.at HW.out hlt
      obtain ⟨bx, hbx⟩ : ∃ x, X k = x := ⟨_, rfl⟩
      obtain ⟨b_y, hby⟩ : ∃ x, Y k = x := ⟨_, rfl⟩
      rw [hbx] at p0
      rw [hby] at p1
      obtain ⟨g, hg⟩ : ∃ g, rp bx b_y = g := ⟨_, rfl⟩
      have HG := Lib.hid hg
      have HB := Lib.hid (And.intro hbx hby)
      clear hbx hby hg
      go_wp2_with fail
      refine name_world ?_
      intro W hW
      have hbW : Below wr.heap.size wr W := by rw [hW]; exact below_a1 _ _
      have HV : Hid (Blk W wr.heap.size #[.int .i64 bx, .int .i64 b_y] 41) := by rw [hW]; exact Lib.hid (Blk.new wr _ _)
      have c0 := HV.out.cell 0
      have c1 := HV.out.cell 1
      have l0 := HV.out.lt
      have hbk := HW.out.trans (hbW.mono HW.out.size)
      clear hW hbW p0 p1
      rcases Nat.eq_zero_or_pos k with hk0 | hk0
      · subst hk0
        cases g with
        | true =>
          refine wp_region_up W.heap.size 13 [(true, 0), (false, 1), (true, 2), (true, 3), (true, 4), (true, 5), (true, 6), (true, 7), (true, 8), (true, 9), (true, 10), (true, 11), (true, 12)] (by kernel_rfl) (by kernel_rfl) (fun _ _ d _ _ h => by cases d <;> exact h) ?_
          have hb : Below W.heap.size W W.drew := (Below.refl _ _).drew
          refine wpS_takeL rfl rfl ?_
          go_big_quiet_step (rfl)
          refine wpQuiet_nil ?_
          refine wpS_doL rfl ?_
          intro K hK
          go_wp2_with ((go_at_call 38; (with_reducible refine (rRight_is bx b_y _ HG.out _).mono ?_); rintro e w2 ⟨rfl, hn⟩))
          replace hb := hb.trans (hn.mono hb.size)
          refine hK.out _ _ (up_iff.2 hb) ?_
          clear hK K
          clear hn
          iterate 11
            refine wpS_takeL rfl rfl ?_
            go_big_quiet_step (rfl)
            refine wpQuiet_nil ?_
          refine wpS_nil ?_
          simp only [List.drop_succ_cons, List.drop_zero]
          have HW2 := Lib.hid (hbk.trans (hb.mono hbk.size))
          have HS := Lib.hid (show rsP (0 + 1) X Y from rsP_up HA.out (by rw [HB.out.1, HB.out.2]; exact HG.out) (fun h => absurd h (by omega)))
          go_wp2_with fail
          go_roundg (N - (0 + 1))
          case measure => omega
          case rel => exact ⟨0 + 1, by norm_cast, by omega, Nat.le_refl _, HS, HW2⟩
        | false =>
          refine wp_region_up W.heap.size 13 [(true, 0), (false, 1), (true, 2), (true, 3), (true, 4), (true, 5), (true, 6), (true, 7), (true, 8), (true, 9), (true, 10), (true, 11), (true, 12)] (by kernel_rfl) (by kernel_rfl) (fun _ _ d _ _ h => by cases d <;> exact h) ?_
          have hb : Below W.heap.size W W.drew := (Below.refl _ _).drew
          refine wpS_takeL rfl rfl ?_
          go_big_quiet_step (rfl)
          refine wpQuiet_nil ?_
          refine wpS_doL rfl ?_
          intro K hK
          go_wp2_with ((go_at_call 38; (with_reducible refine (rRight_is bx b_y _ HG.out _).mono ?_); rintro e w2 ⟨rfl, hn⟩))
          replace hb := hb.trans (hn.mono hb.size)
          refine hK.out _ _ (up_iff.2 hb) ?_
          clear hK K
          clear hn
          iterate 11
            refine wpS_takeL rfl rfl ?_
            go_big_quiet_step (rfl)
            refine wpQuiet_nil ?_
          refine wpS_nil ?_
          simp only [List.drop_succ_cons, List.drop_zero]
          have HW2 := Lib.hid (hbk.trans (hb.mono hbk.size))
          go_wp2
          simp [bodyPost, results, Try.results10, go_sem]
          refine ⟨fun hs => ?_, HW2.out⟩
          have hsk := hs (0) hlt
          rw [HB.out.1, HB.out.2, HG.out] at hsk
          cases hsk.1
      · obtain ⟨i, rfl⟩ : ∃ i, k = i + 1 := ⟨k - 1, by omega⟩
        obtain ⟨pa2, he2, hpt⟩ := (HO.out.of hbk).atP (by omega)
        injection he2 with he2
        rw [← he2] at hpt
        have qa := hpt i (by omega)
        obtain ⟨ax, hax⟩ : ∃ x, X i = x := ⟨_, rfl⟩
        obtain ⟨ay, hay⟩ : ∃ x, Y i = x := ⟨_, rfl⟩
        rw [hax, hay] at qa
        have qa0 := fun u => (qa u).1
        have qa1 := fun u => (qa u).2
        obtain ⟨r, hr⟩ : ∃ r, ahd ax ay bx b_y = r := ⟨_, rfl⟩
        have HR := Lib.hid hr
        have HAA := Lib.hid (And.intro hax hay)
        have hii : ((i + 1 : Nat) : Int) - 1 = (i : Int) := by omega
        have hgt : (0 : Int) < ((i + 1 : Nat) : Int) := by omega
        clear hpt qa hax hay hr he2
        cases g with
        | true =>
          cases r with
          | true =>
            refine wp_region_up W.heap.size 13 [(true, 0), (false, 1), (true, 2), (true, 3), (true, 4), (true, 5), (true, 6), (true, 7), (true, 8), (true, 9), (true, 10), (true, 11), (true, 12)] (by kernel_rfl) (by kernel_rfl) (fun _ _ d _ _ h => by cases d <;> exact h) ?_
            have hb : Below W.heap.size W W.drew := (Below.refl _ _).drew
            refine wpS_takeL rfl rfl ?_
            go_big_quiet_step (rfl)
            refine wpQuiet_nil ?_
            refine wpS_doL rfl ?_
            intro K hK
            go_wp2_with (first | (go_at_call 38; (with_reducible refine (rRight_is bx b_y _ HG.out _).mono ?_); rintro e w2 ⟨rfl, hn⟩) | (go_at_call 39; (with_reducible refine (Ahead_is ax ay bx b_y _ HR.out _).mono ?_); rintro e w2 ⟨rfl, hn⟩))
            replace hb := hb.trans (hn.mono hb.size)
            refine hK.out _ _ (up_iff.2 hb) ?_
            clear hK K
            clear hn
            iterate 11
              refine wpS_takeL rfl rfl ?_
              go_big_quiet_step (rfl)
              refine wpQuiet_nil ?_
            refine wpS_nil ?_
            simp only [List.drop_succ_cons, List.drop_zero]
            have HW2 := Lib.hid (hbk.trans (hb.mono hbk.size))
            go_wp2_with fail
            refine (Ahead_is ax ay bx b_y _ HR.out _).mono ?_
            rintro e W3 ⟨rfl, hn3⟩
            have HW3 := Lib.hid (HW2.out.trans (hn3.mono HW2.out.size))
            have HS := Lib.hid (show rsP (i + 1 + 1) X Y from rsP_up HA.out (by rw [HB.out.1, HB.out.2]; exact HG.out) (fun _ => by rw [HB.out.1, HB.out.2, show i + 1 - 1 = i from rfl, HAA.out.1, HAA.out.2]; exact HR.out))
            go_wp2_with fail
            go_roundg (N - (i + 1 + 1))
            case measure => omega
            case rel => exact ⟨i + 1 + 1, by norm_cast, by omega, Nat.le_refl _, HS, HW3⟩
          | false =>
            refine wp_region_up W.heap.size 13 [(true, 0), (false, 1), (true, 2), (true, 3), (true, 4), (true, 5), (true, 6), (true, 7), (true, 8), (true, 9), (true, 10), (true, 11), (true, 12)] (by kernel_rfl) (by kernel_rfl) (fun _ _ d _ _ h => by cases d <;> exact h) ?_
            have hb : Below W.heap.size W W.drew := (Below.refl _ _).drew
            refine wpS_takeL rfl rfl ?_
            go_big_quiet_step (rfl)
            refine wpQuiet_nil ?_
            refine wpS_doL rfl ?_
            intro K hK
            go_wp2_with (first | (go_at_call 38; (with_reducible refine (rRight_is bx b_y _ HG.out _).mono ?_); rintro e w2 ⟨rfl, hn⟩) | (go_at_call 39; (with_reducible refine (Ahead_is ax ay bx b_y _ HR.out _).mono ?_); rintro e w2 ⟨rfl, hn⟩))
            replace hb := hb.trans (hn.mono hb.size)
            refine hK.out _ _ (up_iff.2 hb) ?_
            clear hK K
            clear hn
            iterate 11
              refine wpS_takeL rfl rfl ?_
              go_big_quiet_step (rfl)
              refine wpQuiet_nil ?_
            refine wpS_nil ?_
            simp only [List.drop_succ_cons, List.drop_zero]
            have HW2 := Lib.hid (hbk.trans (hb.mono hbk.size))
            go_wp2_with fail
            refine (Ahead_is ax ay bx b_y _ HR.out _).mono ?_
            rintro e W3 ⟨rfl, hn3⟩
            have HW3 := Lib.hid (HW2.out.trans (hn3.mono HW2.out.size))
            go_wp2
            simp [bodyPost, results, Try.results10, go_sem]
            refine ⟨fun hs => ?_, HW3.out⟩
            have hsk := hs (i + 1) hlt
            have h2 := hsk.2 (by omega)
            rw [HB.out.1, HB.out.2, show i + 1 - 1 = i from rfl, HAA.out.1, HAA.out.2, HR.out] at h2
            cases h2
        | false =>
          refine wp_region_up W.heap.size 13 [(true, 0), (false, 1), (true, 2), (true, 3), (true, 4), (true, 5), (true, 6), (true, 7), (true, 8), (true, 9), (true, 10), (true, 11), (true, 12)] (by kernel_rfl) (by kernel_rfl) (fun _ _ d _ _ h => by cases d <;> exact h) ?_
          have hb : Below W.heap.size W W.drew := (Below.refl _ _).drew
          refine wpS_takeL rfl rfl ?_
          go_big_quiet_step (rfl)
          refine wpQuiet_nil ?_
          refine wpS_doL rfl ?_
          intro K hK
          go_wp2_with ((go_at_call 38; (with_reducible refine (rRight_is bx b_y _ HG.out _).mono ?_); rintro e w2 ⟨rfl, hn⟩))
          replace hb := hb.trans (hn.mono hb.size)
          refine hK.out _ _ (up_iff.2 hb) ?_
          clear hK K
          clear hn
          iterate 11
            refine wpS_takeL rfl rfl ?_
            go_big_quiet_step (rfl)
            refine wpQuiet_nil ?_
          refine wpS_nil ?_
          simp only [List.drop_succ_cons, List.drop_zero]
          have HW2 := Lib.hid (hbk.trans (hb.mono hbk.size))
          go_wp2
          simp [bodyPost, results, Try.results10, go_sem]
          refine ⟨fun hs => ?_, HW2.out⟩
          have hsk := hs (i + 1) hlt
          rw [HB.out.1, HB.out.2, HG.out] at hsk
          cases hsk.1
    · go_wp2
      simp [bodyPost, results, Try.results10, go_sem]
      have e : k = N := by omega
      rw [e] at HA
      exact ⟨HA.out, HW.out⟩
end Go.Proofs.Ytdlpfiiakmhnlaa

namespace Go.Proofs.Ytdlpfiiakmhnlaa
open Go.RowKit Go.Shelf

/-- two blocks lie as they lay -/
def Fix2 (l D : Nat) (W W' : World) : Prop := W'.heap[l]? = W.heap[l]? ∧ W'.heap[D]? = W.heap[D]?
theorem Fix2.of {L : List Nat} {l D : Nat} {W W' : World} (h : OutL L W W') (h1 : l < W.heap.size) (h2 : D < W.heap.size) (n1 : l ∉ L) (n2 : D ∉ L) : Fix2 l D W W' := ⟨h.block _ h1 n1, h.block _ h2 n2⟩
theorem putObj_out (W : World) (l : Nat) (o : Obj) : OutL [l] W (W.putObj l o) :=
  ⟨rfl, rfl, rfl, Nat.le_of_eq (by simp), fun k _ hc => World.putObj_heap_other (by simpa using hc)⟩
set_option maxHeartbeats 1000000 in
/-- what lay at or above block B is as it was -/
structure Above (B : Nat) (W W' : World) : Prop where
  size : W.heap.size ≤ W'.heap.size
  block : ∀ k, B ≤ k → k < W.heap.size → W'.heap[k]? = W.heap[k]?
theorem Above.refl (B : Nat) (W : World) : Above B W W := ⟨Nat.le_refl _, fun _ _ _ => rfl⟩
theorem Above.trans {B : Nat} {W W1 W2 : World} (h : Above B W W1) (k : Above B W1 W2) : Above B W W2 :=
  ⟨Nat.le_trans h.size k.size, fun j hj hk => (k.block j hj (Nat.lt_of_lt_of_le hk h.size)).trans (h.block j hj hk)⟩
theorem Above.ofOut {B : Nat} {L : List Nat} {W W' : World} (h : OutL L W W') (hL : ∀ k ∈ L, k < B) : Above B W W' :=
  ⟨h.size, fun k hk hs => h.block k hs fun hm => by have := hL k hm; omega⟩
theorem Above.ofBelow {B : Nat} {W W' : World} (h : Below W.heap.size W W') : Above B W W' := .ofOut (L := []) (.ofBelow h) (fun _ hm => by cases hm)
theorem Above.putObj {B D : Nat} (W : World) (hD : D < B) (o : Obj) : Above B W (W.putObj D o) := .ofOut (putObj_out W D o) (by simpa using hD)
end Go.Proofs.Ytdlpfiiakmhnlaa

namespace Go.Proofs.Ytdlpfiiakmhnlaa
open Go.RowKit Go.Shelf

/-- what lay at or above block B is as it was, but for G -/
structure AboveX (B : Nat) (G : Nat → Prop) (W W' : World) : Prop where
  size : W.heap.size ≤ W'.heap.size
  block : ∀ k, B ≤ k → k < W.heap.size → ¬ G k → W'.heap[k]? = W.heap[k]?
theorem AboveX.refl (B : Nat) (G : Nat → Prop) (W : World) : AboveX B G W W := ⟨Nat.le_refl _, fun _ _ _ _ => rfl⟩
theorem AboveX.trans {B : Nat} {G : Nat → Prop} {W W1 W2 : World} (h : AboveX B G W W1) (k : AboveX B G W1 W2) : AboveX B G W W2 :=
  ⟨Nat.le_trans h.size k.size, fun j hj hk hn => (k.block j hj (Nat.lt_of_lt_of_le hk h.size) hn).trans (h.block j hj hk hn)⟩
theorem AboveX.ofAbove {B : Nat} {G : Nat → Prop} {W W' : World} (h : Above B W W') : AboveX B G W W' := ⟨h.size, fun k h1 h2 _ => h.block k h1 h2⟩
/-- what lay below B, and G, is as it was -/
def BelowX (B : Nat) (G : Nat → Prop) (W W' : World) : Prop := Below B W W' ∧ ∀ g, G g → g < W.heap.size → W'.heap[g]? = W.heap[g]?
theorem BelowX.mono {B B' : Nat} {G : Nat → Prop} {W W' : World} (h : BelowX B G W W') (hb : B' ≤ B) : BelowX B' G W W' := ⟨h.1.mono hb, h.2⟩
theorem BelowX.all {B : Nat} {G : Nat → Prop} {W W' : World} (h : Below W.heap.size W W') (hb : B ≤ W.heap.size) : BelowX B G W W' := ⟨h.mono hb, fun g _ hg => h.block g hg⟩
theorem BelowX.trans {B : Nat} {G : Nat → Prop} {W W1 W2 : World} (h : BelowX B G W W1) (k : BelowX B G W1 W2) : BelowX B G W W2 :=
  ⟨h.1.trans k.1, fun g hg hs => (k.2 g hg (Nat.lt_of_lt_of_le hs h.1.size)).trans (h.2 g hg hs)⟩
/-- the iterator g (captured: lb) tells encs 0, encs 1, .. up to N, as far as it is asked; it turns nothing below B; a round keeps what lies at or above B; it asks Kp between two rounds -/
def TellsX (P : Program) (gf : Nat) (lb : Array Value) (N : Nat) (encs : Nat → Array Value) (B : Nat) (Kp : World → Prop) : Prop :=
  ∀ (m lid : Nat) (I : (Nat → Prop) → Nat → World → Prop) (Ix : Nat → World → Prop), (∀ G k W, I G k W → Kp W) → (∀ G k W, I G k W → ∀ g, G g → B ≤ g ∧ g < W.heap.size) → (∀ G k W W', I G k W → BelowX B G W W' → I G k W') → (∀ k W W', Ix k W → Below B W W' → Ix k W') →
    (∀ G k W, k < N → I G k W → YieldAt Fence.wide m P lid (encs k) W fun e W' => ((e = .returned (.bool true) ∧ ∃ G', (∀ g, G' g → G g ∨ W.heap.size ≤ g) ∧ I G' (k + 1) W') ∨ (e = .returned (.bool false) ∧ Ix (k + 1) W')) ∧ AboveX B G W W') →
    ∀ W, B ≤ W.heap.size → I (fun _ => False) 0 W → CallsIn Fence.wide (m + 1) P gf (#[.func (.yield lid) #[] #[]] ++ lb) W fun e W' => (∃ v, e = .returned v) ∧ ((∃ G, I G N W') ∨ ∃ k, k ≤ N ∧ Ix k W')
def rPostX (B l D : Nat) (W : World) (J : (Nat → Prop) → Nat → World → Prop) (Jx : Code → Nat → World → Prop) (G : Nat → Prop) (k : Nat) : Exit → Act → World → Prop
  | .normal, _, W' => (Fix2 l D W W' ∧ ∃ G', (∀ g, G' g → G g ∨ W.heap.size ≤ g) ∧ J G' (k + 1) W') ∧ AboveX B G W W'
  | .ret, _, W' => (Fix2 l D W W' ∧ Jx .ret (k + 1) W') ∧ AboveX B G W W'
  | .exit id, _, W' => (Fix2 l D W W' ∧ Jx (.exit id) (k + 1) W') ∧ AboveX B G W W'
  | .goto t, _, W' => (Fix2 l D W W' ∧ Jx (.goto t) (k + 1) W') ∧ AboveX B G W W'
  | .panic _, _, _ => False
  | .outgrown, _, _ => False
set_option maxHeartbeats 1000000 in
theorem wpIn_rangeX {P : Program} {g : Operand} {ps : Array Tmp} {assign body : Code} {Q : Exit → Act → World → Prop} {a : Act} {w : World} {m : Nat} {gf : Nat} {lb : Array Value} {N : Nat} {encs : Nat → Array Value} {Kp : World → Prop}
    (hg : a.eval g = .func (.func gf) #[] lb) (eg : ∀ args w, (callFunc gf args).run P w = .ok (.enter gf args) w)
    (hT : TellsX P gf lb N encs (w.heap.size + 2) Kp) (hps : ∀ k, (encs k).size = ps.size)
    (J : (Nat → Prop) → Nat → World → Prop) (Jx : Code → Nat → World → Prop) (hG : ∀ G k W, J G k W → ∀ g, G g → w.heap.size + 2 ≤ g ∧ g < W.heap.size) (hst : ∀ G k W W', J G k W → BelowX w.heap.size G W W' → J G k W') (hxst : ∀ c k W W', Jx c k W → Below w.heap.size W W' → Jx c k W')
    (hKp : ∀ G k W, J G k W → Kp W) (h0 : J (fun _ => False) 0 w)
    (hround : ∀ (lid D k : Nat) (G : Nat → Prop) (W : World), k < N → J G k W → lid = w.heap.size + 1 → D = w.heap.size → lid < W.heap.size → D < W.heap.size →
      assign.wpIn (Fence.wide.inRound lid) m P (Exit.then (fun a₁ w₁ => (Fix2 lid D W w₁ ∧ AboveX (w.heap.size + 2) G W w₁) ∧ ∀ w₂, OutL [lid] w₁ w₂ → body.wpIn (Fence.wide.inRound lid) m P (rPostX (w.heap.size + 2) lid D w₂ J Jx G k) a₁ w₂) (fun _ _ _ => False))
        { tmps := (ps.zip (encs k)).foldl (fun t (p, v) => t.setIfInBounds p v) a.tmps, defers := [] } W)
    (hdone : ∀ D G W, D = w.heap.size → J G N W → W.heap[D]? = some (.deferred (some [])) → Q .normal { a with defers := { target := .collected D, args := #[] } :: a.defers } W)
    (hstop : ∀ D c k W, D = w.heap.size → Jx c k W → W.heap[D]? = some (.deferred (some [])) → c.wpIn Fence.wide (m + 2) P Q { a with defers := { target := .collected D, args := #[] } :: a.defers } W) :
    (Code.rangeFunc g ps assign body).wpIn Fence.wide (m + 2) P Q a w := by
  refine wpIn_rangeFunc ?_
  intro fn hfn
  obtain ⟨rec, hrec⟩ : ∃ rec : LoopState → Option Code → Loop, rec = fun st pe => { state := st, pending := pe, fn, tmps := a.tmps, params := ps, assign, body, defers := w.heap.size } := ⟨_, rfl⟩
  obtain ⟨W1, hW1⟩ : ∃ W1, (w.alloc (.deferred (some []))).alloc (.loop (rec .ready none)) = W1 := ⟨_, rfl⟩
  have hL1 : W1.heap[w.heap.size + 1]? = some (.loop (rec .ready none)) := by
    rw [← hW1]; have := World.alloc_heap_new (w.alloc (.deferred (some []))) (.loop (rec .ready none)); rwa [World.size_alloc] at this
  have hK1 : W1.heap[w.heap.size]? = some (.deferred (some [])) := by
    rw [← hW1]; exact (Below.heap_alloc _ _ _ (by simp)).trans (World.alloc_heap_new w _)
  have hb1 : Below w.heap.size w W1 := by rw [← hW1]; exact below_a2 _ _ _
  have hsz : W1.heap.size = w.heap.size + 2 := by rw [← hW1]; simp
  refine ⟨w.heap.size + 1, [{ target := .collected w.heap.size, args := #[] }], W1, { target := .fn (.func gf) lb, args := #[.func (.yield (w.heap.size + 1)) #[] #[]] }, W1, gf,
    #[.func (.yield (w.heap.size + 1)) #[] #[]] ++ lb, W1, ?_, ?_, ?_, ?_, fun h => absurd h (by decide), ?_⟩
  · rw [← hW1, hrec]; exact run_enterLoop_outer _ _ _ _ _
  · simp only [resolve, hg]
    simp [go_sem]
  · intro f' hf'; trivial
  · simp [invoke, go_sem, eg]
  · refine (hT m (w.heap.size + 1)
      (fun G k W => J G k W ∧ W.heap[w.heap.size + 1]? = some (.loop (rec .ready none)) ∧ W.heap[w.heap.size]? = some (.deferred (some [])))
      (fun k W => ∃ c, Jx c k W ∧ W.heap[w.heap.size + 1]? = some (.loop (rec .done (some c))) ∧ W.heap[w.heap.size]? = some (.deferred (some [])))
      (fun G k W h => hKp G k W h.1) (fun G k W h => hG G k W h.1) (fun G k W W' h hb => ⟨hst G k W W' h.1 (hb.mono (by omega)), (hb.1.block _ (by omega)).trans h.2.1, (hb.1.block _ (by omega)).trans h.2.2⟩)
      (fun k W W' h hb => by obtain ⟨c, h1, h2, h3⟩ := h; exact ⟨c, hxst c k W W' h1 (hb.mono (by omega)), (hb.block _ (by omega)).trans h2, (hb.block _ (by omega)).trans h3⟩)
      ?_ W1 (by omega) ⟨hst _ 0 _ _ h0 ⟨hb1, fun g hg => hg.elim⟩, hL1, hK1⟩).mono ?_
    · rintro G k W hk ⟨hi, hl, hd⟩
      have hlt : w.heap.size + 1 < W.heap.size := (Array.getElem?_eq_some_iff.1 hl).1
      have hy := run_yield (P := P) (args := encs k) hl (by rw [hrec]; exact hps k)
      rw [hrec] at hy
      refine ⟨fn, _, assign, body, hy, roundIn_of_wpIn trivial (wpIn_mono (hround _ _ k G W hk hi rfl rfl hlt (by omega)) ?_)⟩
      rintro e a1 w1 he
      cases e with
      | normal =>
        obtain ⟨⟨hf1, hab1⟩, hbody⟩ := he
        have hl1 : w1.heap[w.heap.size + 1]? = some (.loop (rec .ready none)) := hf1.1.trans hl
        have hd1 : w1.heap[w.heap.size]? = some (.deferred (some [])) := hf1.2.trans hd
        have hlt1 : w.heap.size + 1 < w1.heap.size := (Array.getElem?_eq_some_iff.1 hl1).1
        refine ⟨_, run_beginRound hl1 (by rw [hrec]), wpIn_mono (hbody _ (putObj_out _ _ _)) ?_⟩
        have hl2 : (w1.putObj (w.heap.size + 1) (.loop { rec .ready none with state := .busy })).heap[w.heap.size + 1]? = some (.loop { rec .ready none with state := .busy }) := World.putObj_heap_same hlt1
        have hd2 : (w1.putObj (w.heap.size + 1) (.loop { rec .ready none with state := .busy })).heap[w.heap.size]? = some (.deferred (some [])) := (World.putObj_heap_other (by omega)).trans hd1
        have fin : ∀ (jump : Option Code) (W3 : World), Fix2 (w.heap.size + 1) w.heap.size (w1.putObj (w.heap.size + 1) (.loop { rec .ready none with state := .busy })) W3 →
            (Instr.endRound (w.heap.size + 1) jump).run P W3 = .ok (.bool jump.isNone) (W3.putObj (w.heap.size + 1) (.loop (rec (if jump.isNone then .ready else .done) jump))) ∧
            (W3.putObj (w.heap.size + 1) (.loop (rec (if jump.isNone then .ready else .done) jump))).heap[w.heap.size + 1]? = some (.loop (rec (if jump.isNone then .ready else .done) jump)) ∧
            (W3.putObj (w.heap.size + 1) (.loop (rec (if jump.isNone then .ready else .done) jump))).heap[w.heap.size]? = some (.deferred (some [])) := fun jump W3 hk3 => by
          have hl3 := hk3.1.trans hl2
          have := run_endRound (P := P) jump hl3
          rw [hrec] at this ⊢
          exact ⟨this, World.putObj_heap_same (Array.getElem?_eq_some_iff.1 hl3).1, (World.putObj_heap_other (by omega)).trans (hk3.2.trans hd2)⟩
        have pb : ∀ (W3 : World) (o : Obj), w.heap.size ≤ W3.heap.size → Below w.heap.size W3 (W3.putObj (w.heap.size + 1) o) := fun W3 o h => (putObj_out W3 _ o).below h (by simp)
        have sz3 : ∀ W3 : World, Fix2 (w.heap.size + 1) w.heap.size (w1.putObj (w.heap.size + 1) (.loop { rec .ready none with state := .busy })) W3 → w.heap.size ≤ W3.heap.size := fun W3 h => by
          have := (Array.getElem?_eq_some_iff.1 (h.1.trans hl2)).1; omega
        rintro e a3 W3 hp
        have abv : ∀ o : Obj, AboveX (w.heap.size + 2) G (w1.putObj (w.heap.size + 1) (.loop { rec .ready none with state := .busy })) W3 → AboveX (w.heap.size + 2) G W (W3.putObj (w.heap.size + 1) o) := fun o h => ((hab1.trans (.ofAbove (.putObj _ (by omega) _))).trans h).trans (.ofAbove (.putObj _ (by omega) _))
        cases e with
        | normal =>
          obtain ⟨⟨hf3, G', hG', hJ3⟩, hab⟩ := hp
          obtain ⟨hr, hl4, hk4⟩ := fin none W3 hf3
          have hgg := hG _ _ _ hJ3
          refine ⟨_, _, hr, .inl ⟨rfl, G', fun g hg => ?_, hst _ _ _ _ hJ3 ⟨pb _ _ (sz3 _ hf3), fun g hg _ => World.putObj_heap_other (by have := hgg g hg; omega)⟩, hl4, hk4⟩, abv _ hab⟩
          rcases hG' g hg with h | h
          · exact .inl h
          · refine .inr (Nat.le_trans hab1.size ?_)
            simpa using h
        | ret =>
          obtain ⟨hp, hab⟩ := hp
          obtain ⟨hr, hl4, hk4⟩ := fin (some .ret) W3 hp.1
          exact ⟨_, _, hr, .inr ⟨rfl, .ret, hxst _ _ _ _ hp.2 (pb _ _ (sz3 _ hp.1)), hl4, hk4⟩, abv _ hab⟩
        | exit id =>
          obtain ⟨hp, hab⟩ := hp
          obtain ⟨hr, hl4, hk4⟩ := fin (some (.exit id)) W3 hp.1
          exact ⟨_, _, hr, .inr ⟨rfl, .exit id, hxst _ _ _ _ hp.2 (pb _ _ (sz3 _ hp.1)), hl4, hk4⟩, abv _ hab⟩
        | goto t =>
          obtain ⟨hp, hab⟩ := hp
          obtain ⟨hr, hl4, hk4⟩ := fin (some (.goto t)) W3 hp.1
          exact ⟨_, _, hr, .inr ⟨rfl, .goto t, hxst _ _ _ _ hp.2 (pb _ _ (sz3 _ hp.1)), hl4, hk4⟩, abv _ hab⟩
        | panic ch => exact hp.elim
        | outgrown => exact hp.elim
      | exit id => exact he.elim
      | goto t => exact he.elim
      | ret => exact he.elim
      | panic c => exact he.elim
      | outgrown => exact he.elim
    · rintro e W2 ⟨⟨v, rfl⟩, (⟨G, hi, hl, hd⟩ | ⟨k, _, c, hi, hl, hd⟩)⟩
      · have hlt : w.heap.size + 1 < W2.heap.size := (Array.getElem?_eq_some_iff.1 hl).1
        exact ⟨none, _, by have := run_endLoop (P := P) hl (by rw [hrec]; simp); rw [hrec] at this; exact this, hdone _ _ _ rfl (hst _ _ _ _ hi ⟨(putObj_out _ _ _).below (by omega) (by simp), fun g hg _ => World.putObj_heap_other (by have := hG _ _ _ hi g hg; omega)⟩) ((World.putObj_heap_other (by omega)).trans hd)⟩
      · have hlt : w.heap.size + 1 < W2.heap.size := (Array.getElem?_eq_some_iff.1 hl).1
        exact ⟨some c, _, by have := run_endLoop (P := P) hl (by rw [hrec]; simp); rw [hrec] at this; exact this, hstop _ c k _ rfl (hxst _ _ _ _ hi ((putObj_out _ _ _).below (by omega) (by simp))) ((World.putObj_heap_other (by omega)).trans hd)⟩
end Go.Proofs.Ytdlpfiiakmhnlaa

namespace Go.Proofs.Ytdlpfiiakmhnlaa
open Go.RowKit Go.Shelf

theorem nameIn {F : Fence} {n : Nat} {P : Program} {c : Code} {Q : Exit → Act → World → Prop} {a : Act} {w : World} (h : ∀ W, W = w → c.wpIn F n P Q a W) : c.wpIn F n P Q a w := h w rfl
theorem Around_is (t : Nat) (a : Int) (w : World) :
    Calls Try.prog 29 #[ptr t 0, .int .i64 a] w fun e w' => e = .returned (.func (.func 67) #[] #[ptr w.heap.size 0, ptr (w.heap.size + 1) 0]) ∧ Blk w' w.heap.size #[ptr t 0] 25 ∧ Blk w' (w.heap.size + 1) #[.int .i64 a] 3 ∧ Below w.heap.size w w' := by
  go_enter Try.func29, Try.ntmps29
  go_wp2
  go_ret
  exact ⟨rfl, (Blk.new _ _ _).alloc _, Blk.new1 _ _ _ _, below_a2 _ _ _⟩
/-- the halves of a vertex, none where it is none -/
def rowO (N : Nat) (O : Nat → List (Nat × Nat)) (a : Int) : List (Nat × Nat) := if 0 ≤ a ∧ a < N then O a.toNat else []
def arE (L : List (Nat × Nat)) (k : Nat) : Array Value := #[.int .i64 (L.getD k (0, 0)).1, .int .i64 (L.getD k (0, 0)).2]
set_option maxRecDepth 100000 in
set_option maxHeartbeats 2000000 in
theorem Around1_any (m lid bs ba t B : Nat) (D : SD) (N : Nat) (X Y : Nat → Int) (O : Nat → List (Nat × Nat)) (n a : Int) (L : List (Nat × Nat)) (hL : rowO N O a = L) (I : (Nat → Prop) → Nat → World → Prop) (Ix : Nat → World → Prop)
    (hm : ∀ G k W, I G k W → Blk W bs #[ptr t 0] 25 ∧ Blk W ba #[.int .i64 a] 3 ∧ SM W t D N X Y O n) (hst : ∀ G k W W', I G k W → BelowX B G W W' → I G k W')
    (hY : ∀ G k W, k < L.length → I G k W → YieldAt Fence.wide m Try.prog lid (arE L k) W fun e W' => ((e = .returned (.bool true) ∧ ∃ G', (∀ g, G' g → G g ∨ W.heap.size ≤ g) ∧ I G' (k + 1) W') ∨ (e = .returned (.bool false) ∧ Ix (k + 1) W')) ∧ AboveX B G W W')
    (W : World) (hB : B ≤ W.heap.size) (h0 : I (fun _ => False) 0 W) :
    CallsIn Fence.wide (m + 1) Try.prog 67 #[.func (.yield lid) #[] #[], ptr bs 0, ptr ba 0] W fun e W' => (∃ v, e = .returned v) ∧ ((∃ G, I G L.length W') ∨ ∃ k, k ≤ L.length ∧ Ix k W') := by
  refine callsIn_of_wp Try.func67 rfl trivial ?_ rfl
  simp only [Try.ntmps67, List.size_toArray, List.length_cons, List.length_nil, Nat.reduceAdd, Nat.reduceSub, Array.replicate_succ, Array.replicate_zero, List.push_toArray, List.append_toArray, List.nil_append, List.cons_append]
  obtain ⟨ks, ka, hM⟩ := hm _ 0 W h0
  have b0 := ks.cell 0
  have b1 := ka.cell 0
  simp only [List.getElem?_toArray, List.getElem?_cons_zero] at b0 b1
  have HM := Lib.hid hM
  have HH := Lib.hid (And.intro hm (And.intro hst hY))
  have H0 := Lib.hid h0
  clear hM hm hst hY h0
  gi_wp2_with fail
  refine ⟨trivial, callsIn_wide.2 ?_⟩
  refine (has_is t D N X Y O n a _ HM.out).mono ?_
  rintro e W1 ⟨rfl, hb1⟩
  have HM1 := Lib.hid (HM.out.of hb1)
  have H1 := Lib.hid (HH.out.2.1 _ 0 W W1 H0.out (.all hb1 hB))
  have k1 := ks.of hb1
  have k2 := ka.of hb1
  have hB1 : B ≤ W1.heap.size := Nat.le_trans hB hb1.size
  clear HM H0 b0 b1 ks ka hb1
  have b0 := k1.cell 0
  have b1 := k2.cell 0
  have l0 := k1.lt
  have l1 := k2.lt
  simp only [List.getElem?_toArray, List.getElem?_cons_zero] at b0 b1
  by_cases ha : 0 ≤ a ∧ a < N
  · obtain ⟨a', rfl⟩ : ∃ a' : Nat, a = a' := ⟨a.toNat, by omega⟩
    have haN : a' < N := by omega
    obtain rfl : L = O a' := by rw [← hL]; unfold rowO; rw [if_pos ha]; rfl
    have hh : hasI N (a' : Int) = true := by unfold hasI; simp; omega
    rw [hh]
    have HROW := Lib.hid (HM1.out.rows a' haN)
    obtain ⟨c0, c1, c2⟩ := HM1.out.c
    have cr := HM1.out.row haN
    have hsm := HM1.out.small
    have hln := HM1.out.len a' haN
    obtain ⟨ao, cap, hv, hc1, hc2, hc3⟩ := HROW.out.val
    have HC3 := Lib.hid hc3
    have lc := HM1.out.lt (.inl rfl)
    have lo := HM1.out.lt (.inr (.inl rfl))
    rw [hv] at cr
    have HV := Lib.hid hv
    clear hh hc3 hv hL
    gi_wp2_with fail
    gi_region
    have H2 := Lib.hid (HH.out.2.1 _ 0 W1 W1.drew H1.out (.all (Below.refl _ _).drew hB1))
    obtain ⟨len, hlen⟩ : ∃ l, (O a').length = l := ⟨_, rfl⟩
    have HLEN := Lib.hid hlen
    rw [hlen] at hc1 HC3 hln cr HV ⊢
    have hB2 : B ≤ W1.drew.heap.size := hB1
    clear H1 HM1 HROW HC3 b0 b1 k1 k2 l0 l1 c0 c1 c2 cr lc lo hlen hB1
    gi_wp2_with fail
    gi_loopg [18] len (fun gk s18 wr => ∃ k : Nat, s18 = .int .i64 k ∧ k ≤ len ∧ len - k ≤ gk ∧ Hid (∃ G, I G k wr) ∧ B ≤ wr.heap.size)
    case atStart => exact ⟨0, rfl, Nat.zero_le _, Nat.le_refl _, Lib.hid ⟨_, H2.out⟩, hB2⟩
    case round =>
      clear H2 hB2
      obtain ⟨k, rfl, hk, hgk, HI, hB2⟩ := hrel
      obtain ⟨G, HI⟩ := HI.out
      have HI := Lib.hid HI
      by_cases hlt : k < len
      · obtain ⟨ks, ka, hM⟩ := HH.out.1 _ k wr HI.out
        obtain ⟨ao', cap', hv', _, _, hc3'⟩ := (hM.rows a' haN).val
        rw [HV.out] at hv'
        injection hv' with e1 e2 e3
        subst e1
        obtain ⟨g, rfl, _, hgl, hcell⟩ := hc3' (by rw [HLEN.out]; omega)
        obtain ⟨x, hx⟩ : ∃ x, (O a')[k]? = some x := ⟨_, List.getElem?_eq_getElem (show k < (O a').length by rw [HLEN.out]; omega)⟩
        have hcx := hcell k x hx
        have hE : arE (O a') k = #[.int .i64 x.1, .int .i64 x.2] := by unfold arE; rw [List.getD_eq_getElem?_getD, hx]; rfl
        obtain ⟨xt, xc⟩ := x
        have p0 : wr.cell? ⟨g, k * 2, none⟩ = some (.int .i64 (xt : Int)) := hcx.1
        have p1 : wr.cell? ⟨g, k * 2 + 1, none⟩ = some (.int .i64 (xc : Int)) := hcx.2
        have HE := Lib.hid hE
        have hIV := HH.out.2.1 _ k wr (wr.alloc (.cells #[.int .i64 (xt : Int), .int .i64 (xc : Int)] 102)) HI.out (.all ((Below.refl _ _).alloc (Nat.le_refl _) _) hB2)
        obtain ⟨fn, tmps, assign, body, hy, hR⟩   := HH.out.2.2 _ k _ (by rw [HLEN.out]; exact hlt) hIV
        rw [HE.out] at hy
        have hBV : B ≤ (wr.alloc (.cells #[.int .i64 (xt : Int), .int .i64 (xc : Int)] 102)).heap.size := by simp; omega
        have HBV := Lib.hid hBV
        clear ks ka hM hcell hcx hx e2 e3 hc3' hE hIV HI hBV
        gi_wp2
        refine hR.mono ?_
        rintro e W3 ⟨(⟨rfl, G3, _, hI3⟩ | ⟨rfl, hx3⟩), hab⟩
        · have HI3 : Hid (∃ G, I G (k + 1) W3) := Lib.hid ⟨_, hI3⟩
          have hB3 : B ≤ W3.heap.size := Nat.le_trans HBV.out hab.size
          clear hI3 hab HBV hy hR p0 p1 hB2
          gi_wp2_with fail
          gi_roundg (len - (k + 1))
          case measure => omega
          case rel => exact ⟨k + 1, by norm_cast, by omega, Nat.le_refl _, HI3, hB3⟩
        · have HX := Lib.hid hx3
          have hkl : k + 1 ≤ (O a').length := by rw [HLEN.out]; omega
          clear hx3 hab HBV hy hR p0 p1 hB2
          gi_wp2
          refine bodyPost_ret (results_none rfl _ _ _) rfl ?_
          exact ⟨⟨_, rfl⟩, .inr ⟨k + 1, hkl, HX.out⟩⟩
      · have hkl : k = len := by omega
        have HF := Lib.hid (show ∃ G, I G (O a').length wr by rw [HLEN.out, ← hkl]; exact ⟨_, HI.out⟩)
        clear HI
        gi_wp2
        go_end0
        exact ⟨⟨_, rfl⟩, .inl HF.out⟩
  · obtain rfl : L = [] := by rw [← hL]; unfold rowO; rw [if_neg ha]
    have hh : hasI N a = false := by unfold hasI; simp; omega
    rw [hh]
    clear hh hL
    gi_wp2
    refine bodyPost_ret (results_none rfl _ _ _) rfl ?_
    exact ⟨⟨_, rfl⟩, .inl ⟨_, H1.out⟩⟩
theorem Around1_tells (bs ba t : Nat) (D : SD) (N : Nat) (X Y : Nat → Int) (O : Nat → List (Nat × Nat)) (n a : Int) (L : List (Nat × Nat)) (hL : rowO N O a = L) (B : Nat) :
    TellsX Try.prog 67 #[ptr bs 0, ptr ba 0] L.length (arE L) B (fun W => Blk W bs #[ptr t 0] 25 ∧ Blk W ba #[.int .i64 a] 3 ∧ SM W t D N X Y O n) :=
  fun m lid I Ix hK _ hst _ hY W hB h0 => Around1_any m lid bs ba t B D N X Y O n a L hL I Ix hK hst hY W hB h0
end Go.Proofs.Ytdlpfiiakmhnlaa

namespace Go.Proofs.Ytdlpfiiakmhnlaa
open Go.RowKit Go.Shelf
attribute [local go_sem] Oper.semAt_some

theorem yield_deep {m m' l l0 : Nat} {P : Program} {args : Array Value} {W : World} {R : Ending → World → Prop} (h : YieldAt Fence.wide m P l args W R) : YieldAt (Fence.wide.inRound l0) m' P l args W R := by
  obtain ⟨fn, tmps, assign, body, hy, hR⟩ := h
  exact ⟨fn, tmps, assign, body, hy, hR.1, fun c cs _ => hR.2 c cs (fun d h => by cases h)⟩
theorem Blk.outl {L : List Nat} {W w : World} {b : Nat} {c : Array Value} {t : TypeId} (h : Blk W b c t) (ho : OutL L W w) (hb : b ∉ L) : Blk w b c t := (ho.block b h.lt hb).trans h
/-- what is told of a row -/
def told (a : Nat) (L : List (Nat × Nat)) : List Tri3 := (L.filter fun x => decide (a < x.1) && decide (a < x.2)).map fun x => (a, x.1, x.2)
def preO (O : Nat → List (Nat × Nat)) : Nat → List Tri3
  | 0 => []
  | a + 1 => preO O a ++ told a (O a)
def posO (O : Nat → List (Nat × Nat)) (a j : Nat) : Nat := (preO O a).length + (told a ((O a).take j)).length
theorem preO_le (O : Nat → List (Nat × Nat)) (a : Nat) : ∀ N, a ≤ N → ∃ r, preO O N = preO O a ++ r := by
  intro N
  induction N with
  | zero => intro h; obtain rfl : a = 0 := by omega
            exact ⟨[], rfl⟩
  | succ N ih =>
    intro h
    rcases Nat.lt_or_ge a (N + 1) with h1 | h1
    · obtain ⟨r, hr⟩ := ih (by omega)
      exact ⟨r ++ told N (O N), by show preO O N ++ _ = _; rw [hr, List.append_assoc]⟩
    · obtain rfl : a = N + 1 := by omega
      exact ⟨[], by rw [List.append_nil]⟩
theorem told_app (a : Nat) (l m : List (Nat × Nat)) : told a (l ++ m) = told a l ++ told a m := by unfold told; rw [List.filter_append, List.map_append]
theorem take_succ' {L : List (Nat × Nat)} {j : Nat} {x : Nat × Nat} (h : L[j]? = some x) : L.take (j + 1) = L.take j ++ [x] := by
  rw [List.take_add_one, h]; rfl
theorem posO_no {O : Nat → List (Nat × Nat)} {a j : Nat} {x : Nat × Nat} (h : (O a)[j]? = some x) (hn : ¬ (a < x.1 ∧ a < x.2)) : posO O a (j + 1) = posO O a j := by
  have : told a [x] = [] := by
    unfold told
    rw [List.filter_cons, if_neg (by simpa using hn)]; rfl
  unfold posO
  rw [take_succ' h, told_app, this, List.append_nil]
theorem posO_yes {O : Nat → List (Nat × Nat)} {N a j : Nat} {x : Nat × Nat} (ha : a < N) (h : (O a)[j]? = some x) (hn : a < x.1 ∧ a < x.2) : posO O a (j + 1) = posO O a j + 1 ∧ (preO O N)[posO O a j]? = some (a, x.1, x.2) := by
  have h1 : told a [x] = [(a, x.1, x.2)] := by
    unfold told
    rw [List.filter_cons, if_pos (by simpa using hn)]; rfl
  constructor
  · unfold posO
    rw [take_succ' h, told_app, h1, List.length_append]; rfl
  · obtain ⟨r, hr⟩ := preO_le O (a + 1) N ha
    have hj : j < (O a).length := (List.getElem?_eq_some_iff.1 h).1
    have h2 : O a = (O a).take j ++ x :: (O a).drop (j + 1) := by
      conv => lhs; rw [← List.take_append_drop j (O a)]
      rw [List.drop_eq_getElem_cons hj, (List.getElem?_eq_some_iff.1 h).2]
    have h3 : told a (O a) = told a ((O a).take j) ++ ((a, x.1, x.2) :: told a ((O a).drop (j + 1))) := by
      conv => lhs; rw [h2]
      rw [told_app, show x :: (O a).drop (j + 1) = [x] ++ (O a).drop (j + 1) from rfl, told_app, h1]; rfl
    rw [hr]
    show ((preO O a ++ told a (O a)) ++ r)[(preO O a).length + (told a ((O a).take j)).length]? = _
    rw [h3, List.append_assoc, List.append_assoc, List.getElem?_append_right (by omega), Nat.add_sub_cancel_left, List.getElem?_append_right (by omega), Nat.sub_self]; rfl
theorem posO_0 (O : Nat → List (Nat × Nat)) (a : Nat) : posO O a 0 = (preO O a).length := by unfold posO; rfl
theorem posO_all (O : Nat → List (Nat × Nat)) (a : Nat) : posO O a (O a).length = (preO O (a + 1)).length := by
  unfold posO
  rw [List.take_length]
  show _ = (preO O a ++ told a (O a)).length
  rw [List.length_append]
theorem posO_lt {O : Nat → List (Nat × Nat)} {N a j : Nat} {x : Nat × Nat} (ha : a < N) (h : (O a)[j]? = some x) (hn : a < x.1 ∧ a < x.2) : posO O a j < (preO O N).length := (List.getElem?_eq_some_iff.1 (posO_yes ha h hn).2).1
def allE (l : List Tri3) (k : Nat) : Array Value := #[tI (l.getD k (0, 0, 0)).1 (l.getD k (0, 0, 0)).2.1 (l.getD k (0, 0, 0)).2.2]
theorem All_is (t : Nat) (w : World) :
    Calls Try.prog 27 #[ptr t 0] w fun e w' => e = .returned (.func (.func 63) #[] #[ptr w.heap.size 0]) ∧ Blk w' w.heap.size #[ptr t 0] 25 ∧ Below w.heap.size w w' := by
  go_enter Try.func27, Try.ntmps27
  go_wp2
  go_ret
  exact ⟨rfl, Blk.new _ _ _, below_a1 _ _⟩
/-- the marks that ranges over functions leave in a frame -/
def Marks (y : Nat) (w : World) : List Deferred → Prop
  | [] => True
  | d :: ds => (∃ r, d = { target := .collected r, args := #[] } ∧ y < r ∧ w.heap[r]? = some (.deferred (some [])) ∧ ∀ d', d' ∈ ds → ∀ r', d'.target = .collected r' → r' < r) ∧ Marks y w ds
theorem Marks.keep {y : Nat} {w w' : World} : ∀ {ds : List Deferred}, Marks y w ds → (∀ r, y < r → r < w.heap.size → w'.heap[r]? = w.heap[r]?) → Marks y w' ds := by
  intro ds
  induction ds with
  | nil => intro _ _; trivial
  | cons d ds ih =>
    rintro ⟨⟨r, h1, h2, h3, h4⟩, h5⟩ hk
    exact ⟨⟨r, h1, h2, (hk r h2 (Array.getElem?_eq_some_iff.1 h3).1).trans h3, h4⟩, ih h5 hk⟩
theorem Marks.lt {y : Nat} {w : World} : ∀ {ds : List Deferred}, Marks y w ds → ∀ d, d ∈ ds → ∀ r, d.target = .collected r → r < w.heap.size := by
  intro ds
  induction ds with
  | nil => intro _ d hd; cases hd
  | cons d ds ih =>
    rintro ⟨⟨r, h1, h2, h3, h4⟩, h5⟩ d' hd' r' hr'
    rcases List.mem_cons.1 hd' with rfl | hd'
    · rw [h1] at hr'
      injection hr' with hr'
      rw [← hr']; exact (Array.getElem?_eq_some_iff.1 h3).1
    · exact ih h5 d' hd' r' hr'
theorem Marks.putOld {y : Nat} {w : World} {D : Nat} {o : Obj} : ∀ {ds : List Deferred}, Marks y w ds → (∀ d, d ∈ ds → ∀ r, d.target = .collected r → r < D) → Marks y (w.putObj D o) ds := by
  intro ds
  induction ds with
  | nil => intro _ _; trivial
  | cons d ds ih =>
    rintro ⟨⟨r, h1, h2, h3, h4⟩, h5⟩ hD
    have := hD d (List.mem_cons_self ..) r (by rw [h1])
    exact ⟨⟨r, h1, h2, (World.putObj_heap_other (by omega)).trans h3, h4⟩, ih h5 fun d' hd' => hD d' (List.mem_cons_of_mem _ hd')⟩
theorem Marks.putB {y : Nat} {w w' : World} {M : Nat} : ∀ {ds : List Deferred}, Marks y w ds → Below M w w' → (∀ d, d ∈ ds → ∀ r, d.target = .collected r → r < M) → Marks y w' ds := by
  intro ds
  induction ds with
  | nil => intro _ _ _; trivial
  | cons d ds ih =>
    rintro ⟨⟨r, h1, h2, h3, h4⟩, h5⟩ hb hD
    have := hD d (List.mem_cons_self ..) r (by rw [h1])
    exact ⟨⟨r, h1, h2, (hb.block r this).trans h3, h4⟩, ih h5 hb fun d' hd' => hD d' (List.mem_cons_of_mem _ hd')⟩
theorem Marks.keepD {y : Nat} {w w' : World} : ∀ {ds : List Deferred}, Marks y w ds → (∀ d, d ∈ ds → ∀ r, d.target = .collected r → y < r → r < w.heap.size → w'.heap[r]? = w.heap[r]?) → Marks y w' ds := by
  intro ds
  induction ds with
  | nil => intro _ _; trivial
  | cons d ds ih =>
    rintro ⟨⟨r, h1, h2, h3, h4⟩, h5⟩ hk
    exact ⟨⟨r, h1, h2, (hk d (List.mem_cons_self ..) r (by rw [h1]) h2 (Array.getElem?_eq_some_iff.1 h3).1).trans h3, h4⟩, ih h5 fun d' hd' => hk d' (List.mem_cons_of_mem _ hd')⟩
theorem leaves_marks {F : Fence} {n : Nat} {P : Program} {fn : Func} {tmps : Array Value} {R : Ending → World → Prop} {y B : Nat} (hB : B ≤ y) (G : Nat → Prop) : ∀ (ds : List Deferred) (w : World), B ≤ w.heap.size → Marks y w ds → (∀ d, d ∈ ds → ∀ r, d.target = .collected r → ¬ G r) → (∀ w', BelowX B G w w' → LeavesInM F n P fn tmps R [] .returning w') → LeavesInM F n P fn tmps R ds .returning w := by
  intro ds
  induction ds with
  | nil => intro w hw _ _ h; exact h w ⟨⟨rfl, rfl, rfl, Nat.le_refl _, fun _ _ => rfl⟩, fun _ _ _ => rfl⟩
  | cons d ds ih =>
    rintro w hw ⟨⟨r, h1, h2, h3, h4⟩, h5⟩ hn h
    refine ⟨by simp, .inl ⟨r, _, by rw [h1], run_takeDeferred h3, ?_⟩⟩
    have hb : Below B w (w.putObj r (.deferred none)) := (putObj_out w r _).below hw (by simp; omega)
    have hx : BelowX B G w (w.putObj r (.deferred none)) := ⟨hb, fun g hg _ => World.putObj_heap_other fun e => hn d (List.mem_cons_self ..) r (by rw [h1]) (by rw [← e]; exact hg)⟩
    exact ih _ (Nat.le_trans hw hb.size) (h5.putOld h4) (fun d' hd' => hn d' (List.mem_cons_of_mem _ hd')) fun w' hw' => h w' (hx.trans hw')
set_option maxRecDepth 100000 in
set_option maxHeartbeats 2000000 in
theorem All1_any (m lid bs t B : Nat) (D : SD) (N : Nat) (X Y : Nat → Int) (O : Nat → List (Nat × Nat)) (n : Int) (L : List Tri3) (hL : preO O N = L) (I : (Nat → Prop) → Nat → World → Prop) (Ix : Nat → World → Prop)
    (hm : ∀ G k W, I G k W → Blk W bs #[ptr t 0] 25 ∧ SM W t D N X Y O n) (hG : ∀ G k W, I G k W → ∀ g, G g → B ≤ g ∧ g < W.heap.size) (hst : ∀ G k W W', I G k W → BelowX B G W W' → I G k W') (hxst : ∀ k W W', Ix k W → Below B W W' → Ix k W')
    (hY : ∀ G k W, k < L.length → I G k W → YieldAt Fence.wide m Try.prog lid (allE L k) W fun e W' => ((e = .returned (.bool true) ∧ ∃ G', (∀ g, G' g → G g ∨ W.heap.size ≤ g) ∧ I G' (k + 1) W') ∨ (e = .returned (.bool false) ∧ Ix (k + 1) W')) ∧ AboveX B G W W')
    (W : World) (hB : B ≤ W.heap.size) (h0 : I (fun _ => False) 0 W) :
    CallsIn Fence.wide (m + 1) Try.prog 63 #[.func (.yield lid) #[] #[], ptr bs 0] W fun e W' => (∃ v, e = .returned v) ∧ ((∃ G, I G L.length W') ∨ ∃ k, k ≤ L.length ∧ Ix k W') := by
  refine callsIn_wide.2 ((callsIn_wide (n := 3)).1 ?_)
  refine callsIn_of_wp_marks Try.func63 rfl trivial ?_ rfl
  simp only [Try.ntmps63, List.size_toArray, List.length_cons, List.length_nil, Nat.reduceAdd, Nat.reduceSub, Array.replicate_succ, Array.replicate_zero, List.push_toArray, List.append_toArray, List.nil_append, List.cons_append]
  obtain ⟨ks, hM⟩ := hm _ 0 W h0
  have lb := ks.lt
  have lt := hM.blk.lt
  have b0 := ks.cell 0
  simp only [List.getElem?_toArray, List.getElem?_cons_zero] at b0
  obtain ⟨c0, _, _⟩ := hM.c
  have hsm := hM.small
  have hcl := hM.pts.capl
  have hcb := hM.pts.capb
  have H0 := Lib.hid h0
  have HL := Lib.hid hL
  have HH := Lib.hid (And.intro hm (And.intro hst (And.intro hxst (And.intro hY hG))))
  have hbs : bs ≠ W.heap.size := by omega
  have htn : t ≠ W.heap.size := by omega
  clear hm hG hst hxst hY h0 hL ks hM
  gi_wp2_with fail
  refine nameIn ?_
  intro V hV
  have hbV : Below W.heap.size W V := by rw [hV]; exact below_a1 _ _
  have KY : Hid (Blk V W.heap.size #[.func (.yield lid) #[] #[]] 117) := by rw [hV]; exact Lib.hid (Blk.new _ _ _)
  have H1 : Hid (I (fun _ => False) (posO O 0 0) V) := Lib.hid (HH.out.2.1 _ 0 W V H0.out (.all hbV hB))
  obtain ⟨y, hy⟩ : ∃ y, W.heap.size = y := ⟨_, rfl⟩
  have hyV : y < V.heap.size := by rw [← hy]; exact KY.out.lt
  rw [hy] at KY hB lb lt hbs htn ⊢
  clear hV hbV hy H0 b0 c0 hcl hcb
  refine wpIn_loop_ghost_k (fun gk act wr => ∃ (u3 u4 u5 u12 u13 u14 u15 u16 u17 u18 u19 u20 u21 u22 u23 u24 u25 u26 u27 u28 u29 u30 u31 u32 u33 u34 u35 u36 : Value) (ds : List Deferred) (a : Nat) (G0 : Nat → Prop), (a ≤ N ∧ N - a ≤ gk ∧ Hid (I G0 (posO O a 0) wr ∧ ¬ G0 y ∧ ∀ d, d ∈ ds → ∀ r, d.target = .collected r → ¬ G0 r) ∧ Hid (Blk wr y #[.func (.yield lid) #[] #[]] 117) ∧ y < wr.heap.size ∧ Hid (Marks y wr ds)) ∧ act = { tmps := #[.func (.yield lid) #[] #[], ptr bs 0, ptr y 0, u3, u4, u5, ptr t 0, ptr t 0, .pointer (some ⟨t, 0, none⟩), .slice D.po N D.pc, .int .i64 (N : Nat), .int .i64 (a : Nat), u12, u13, u14, u15, u16, u17, u18, u19, u20, u21, u22, u23, u24, u25, u26, u27, u28, u29, u30, u31, u32, u33, u34, u35, u36], defers := ds }) N ⟨_, _, _, _, _, _, _, _, _, _, _, _, _, _, _, _, _, _, _, _, _, _, _, _, _, _, _, _, [], 0, _, ⟨Nat.zero_le _, Nat.le_refl _, Lib.hid ⟨H1.out, fun h => h, fun d hd => by cases hd⟩, KY, hyV, Lib.hid trivial⟩, rfl⟩ ?_
  intro gk act wr hinv J K hJ hK
  obtain ⟨u3, u4, u5, u12, u13, u14, u15, u16, u17, u18, u19, u20, u21, u22, u23, u24, u25, u26, u27, u28, u29, u30, u31, u32, u33, u34, u35, u36, ds, a, G0, ⟨ha, hga, HI, KYw, hyw, HM⟩, rfl⟩ := hinv
  clear H1 KY hyV
  by_cases haN : a < N
  · obtain ⟨ks, hM⟩ := HH.out.1 _ _ wr HI.out.1
    have G0s := HH.out.2.2.2.2 _ _ _ HI.out.1
    have HNG := Lib.hid HI.out.2
    have b0 := ks.cell 0
    simp only [List.getElem?_toArray, List.getElem?_cons_zero] at b0
    have lbw := ks.lt
    have hbs2 : bs ≠ wr.heap.size := by omega
    clear ks hM
    gi_wp2_with fail
    refine ⟨trivial, callsIn_wide.2 ?_⟩
    refine calls_w ?_
    intro V1 hV1
    have KA : Blk V1 wr.heap.size #[.int .i64 (a : Nat)] 3 := by rw [hV1]; exact Blk.new _ _ _
    have hb1 : Below wr.heap.size wr V1 := by rw [hV1]; exact below_a1 _ _
    clear hV1 b0
    refine (Around_is t a V1).mono ?_
    rintro e V2 ⟨rfl, kcs, kca, hb2⟩
    have KA2 := Lib.hid (KA.of hb2)
    have z1 := KA.lt
    have z2 := kca.lt
    have hs1 := hb1.size
    have hs2 := hb2.size
    have I2 := Lib.hid (HH.out.2.1 _ _ _ _ (HH.out.2.1 _ _ _ _ HI.out.1 (.all hb1 (by omega))) (.all hb2 (by omega)))
    have KY2 := Lib.hid ((KYw.out.of hb1).of hb2)
    have HM2 : Hid (Marks y V2 ds) := Lib.hid ((HM.out.keep fun r _ h2 => hb1.block r h2).keep fun r _ h2 => hb2.block r h2)
    have HD2 : Hid (∀ d, d ∈ ds → ∀ r, d.target = .collected r → r < V2.heap.size) := Lib.hid fun d hd r hr => by have := HM.out.lt d hd r hr; omega
    have HG0 : Hid (∀ g, G0 g → B ≤ g ∧ g < wr.heap.size) := Lib.hid G0s
    clear G0s
    obtain ⟨ba, eba⟩ : ∃ b, wr.heap.size = b := ⟨_, rfl⟩
    obtain ⟨cs, ecs⟩ : ∃ b, V1.heap.size = b := ⟨_, rfl⟩
    obtain ⟨ca, eca⟩ : ∃ b, V1.heap.size + 1 = b := ⟨_, rfl⟩
    have o1 : y < ba := by omega
    have o2 : ba < cs := by omega
    have o3 : cs < ca := by omega
    have o4 : ca < V2.heap.size := by omega
    have o5 : B ≤ y := hB
    rw [eca] at kca ⊢
    rw [ecs] at kcs ⊢
    rw [eba] at KA2 HG0 ⊢
    have KC := Lib.hid (And.intro kcs kca)
    clear kcs kca KA hb1 hb2 HI KYw HM eba ecs eca z1 z2 hs1 hs2 hbs2 hyw
    gi_wp2_with fail
    obtain ⟨len, hlen⟩ : ∃ l, (O a).length = l := ⟨_, rfl⟩
    have HLEN := Lib.hid hlen
    have hrow : rowO N O (a : Int) = O a := by unfold rowO; rw [if_pos (by omega)]; rfl
    have hT := Around1_tells cs ca t D N X Y O n a (O a) hrow (V2.heap.size + 2)
    rw [hlen] at hT
    clear hlen hrow
    refine wpIn_rangeX (m := 1) (gf := 67) (lb := #[ptr cs 0, ptr ca 0]) (N := len) (encs := arE (O a)) (Kp := fun W => Blk W cs #[ptr t 0] 25 ∧ Blk W ca #[.int .i64 (a : Nat)] 3 ∧ SM W t D N X Y O n) rfl (fun args w => by go_simp) hT (fun _ => rfl)
      (fun G j W => (∃ Gt, I Gt (posO O a j) W ∧ (∀ g, Gt g → G0 g ∨ G g) ∧ ∀ g, G g → Gt g ∧ V2.heap.size + 2 ≤ g) ∧ Blk W y #[.func (.yield lid) #[] #[]] 117 ∧ Blk W ba #[.int .i64 (a : Nat)] 3 ∧ Blk W cs #[ptr t 0] 25 ∧ Blk W ca #[.int .i64 (a : Nat)] 3 ∧ Marks y W ds ∧ V2.heap.size ≤ W.heap.size)
      (fun c j W => c = .ret ∧ (∃ k, k ≤ L.length ∧ Ix k W) ∧ Marks y W ds ∧ V2.heap.size ≤ W.heap.size) ?hg ?stable ?xstable ?keeps ?start ?round ?done ?stop
    case hg =>
      rintro G k W ⟨⟨Gt, j1, j8, j9⟩, _⟩ g hg
      have := HH.out.2.2.2.2 _ _ _ j1 g (j9 g hg).1
      exact ⟨(j9 g hg).2, this.2⟩
    case stable =>
      rintro G k W W' ⟨⟨Gt, j1, j8, j9⟩, j2, j3, j4, j5, j6, j7⟩ ⟨hbl, hbg⟩
      refine ⟨⟨Gt, HH.out.2.1 _ _ W W' j1 ⟨hbl.mono (by omega), fun g hg hs => ?_⟩, j8, j9⟩, j2.below hbl (by omega), j3.below hbl (by omega), j4.below hbl (by omega), j5.below hbl (by omega), j6.putB hbl HD2.out, Nat.le_trans j7 hbl.size⟩
      rcases j8 g hg with h | h
      · exact hbl.block g (by have := HG0.out g h; omega)
      · exact hbg g h hs
    case xstable =>
      rintro c k W W' ⟨j1, ⟨k', j0, j2⟩, j6, j7⟩ hbl
      exact ⟨j1, ⟨k', j0, HH.out.2.2.1 _ W W' j2 (hbl.mono (by omega))⟩, j6.putB hbl HD2.out, Nat.le_trans j7 hbl.size⟩
    case keeps =>
      rintro G k W ⟨⟨Gt, j1, _, _⟩, j2, j3, j4, j5, j6, j7⟩
      exact ⟨j4, j5, (HH.out.1 _ _ W j1).2⟩
    case start => exact ⟨⟨G0, I2.out, fun g h => .inl h, fun g h => h.elim⟩, KY2.out, KA2.out, KC.out.1, KC.out.2, HM2.out, Nat.le_refl _⟩
    case round =>
      rintro l2 D2 k G W2 hk ⟨⟨Gt, j1, j8, j9⟩, j2, j3, j4, j5, j6, j7⟩ g1 g2 g3 g4
      obtain ⟨x, hx⟩ : ∃ x, (O a)[k]? = some x := ⟨_, List.getElem?_eq_getElem (show k < (O a).length by rw [HLEN.out]; exact hk)⟩
      have hE : arE (O a) k = #[.int .i64 x.1, .int .i64 x.2] := by unfold arE; rw [List.getD_eq_getElem?_getD, hx]; rfl
      rw [hE]
      obtain ⟨xb, xc⟩ := x
      have HX := Lib.hid hx
      have JJ := Lib.hid (And.intro j1 (And.intro j2 (And.intro j3 (And.intro j4 (And.intro j5 j6)))))
      have HGG := Lib.hid (And.intro j8 j9)
      have HGs := Lib.hid (HH.out.2.2.2.2 _ _ _ j1)
      clear j1 j2 j3 j4 j5 j6 j8 j9 hx hE hT
      gi_wp2
      refine ⟨⟨Fix2.of (OutL.refl [] _) g3 g4 (by simp) (by simp), AboveX.refl _ _ _⟩, ?_⟩
      intro W3 hW3
      obtain ⟨j1, j2, j3, j4, j5, j6⟩ := JJ.out
      have hgl : ∀ g, Gt g → g ≠ l2 := fun g hg e => by
        rcases HGG.out.1 g hg with h | h
        · have := HG0.out g h; omega
        · have := HGG.out.2 g h; omega
      have hI3 := Lib.hid (HH.out.2.1 _ _ W2 W3 j1 ⟨hW3.below (by omega) (by simp; omega), fun g hg hs => hW3.block g hs (by simpa using hgl g hg)⟩)
      have HNT : Hid (∀ g, g < V2.heap.size + 2 → ¬ G0 g → ¬ Gt g) := Lib.hid fun g h1 h2 h3 => by
        rcases HGG.out.1 g h3 with h | h
        · exact h2 h
        · have := HGG.out.2 g h; omega
      have HG0b : Hid (∀ g, ba ≤ g → ¬ G0 g) := Lib.hid fun g h1 h2 => by have := HG0.out g h2; omega
      have k2 := j2.outl hW3 (by simp; omega)
      have k3 := j3.outl hW3 (by simp; omega)
      have K4 := Lib.hid (j4.outl hW3 (by simp; omega))
      have K5 := Lib.hid (j5.outl hW3 (by simp; omega))
      have K6 := Lib.hid (j6.putB (hW3.below (B := V2.heap.size) (by omega) (by simp; omega)) HD2.out)
      have q1 := k2.cell 0
      have q2 := k3.cell 0
      simp only [List.getElem?_toArray, List.getElem?_cons_zero] at q1 q2
      have K2 := Lib.hid k2
      have K3 := Lib.hid k3
      have sz3 := hW3.size
      clear JJ j1 j2 j3 j4 j5 j6 k2 k3
      by_cases hc : a < xb ∧ a < xc
      · obtain ⟨c1, c2⟩ := hc
        have c1' : (a : Int) < (xb : Int) := by omega
        have c2' : (a : Int) < (xc : Int) := by omega
        obtain ⟨hpos, hat⟩ := posO_yes haN HX.out ⟨c1, c2⟩
        have hlt := posO_lt haN HX.out ⟨c1, c2⟩
        rw [HL.out] at hat hlt
        have hval : allE L (posO O a k) = #[tI a xb xc] := by unfold allE; rw [List.getD_eq_getElem?_getD, hat]; rfl
        obtain ⟨fn, tmps, assign, body, hy, hR2⟩ := yield_deep (m' := 0) (l0 := l2) (HH.out.2.2.2.1 _ _ W3 hlt hI3.out)
        rw [hval] at hy
        have HP := Lib.hid (And.intro hpos hlt)
        clear hpos hat hlt hval c1 c2
        gi_wp2
        refine hR2.mono ?_
        rintro e W5 ⟨(⟨rfl, G5, hG5, hI5⟩ | ⟨rfl, hx5⟩), hab⟩
        · have ny : y < V2.heap.size + 2 := by omega
          have b1 := hab.block y (by omega) (by omega) (HNT.out y (by omega) HNG.out.1)
          have b2 := hab.block ba (by omega) (by omega) (HNT.out ba (by omega) (HG0b.out ba (by omega)))
          have b3 := hab.block cs (by omega) (by omega) (HNT.out cs (by omega) (HG0b.out cs (by omega)))
          have b4 := hab.block ca (by omega) (by omega) (HNT.out ca (by omega) (HG0b.out ca (by omega)))
          have b5 := hab.block l2 (by omega) (by omega) (HNT.out l2 (by omega) (HG0b.out l2 (by omega)))
          have b6 := hab.block D2 (by omega) (by omega) (HNT.out D2 (by omega) (HG0b.out D2 (by omega)))
          have b7 : Marks y W5 ds := K6.out.keepD fun d hd r hr h1 h2 => hab.block r (by omega) h2 (HNT.out r (by have := HD2.out d hd r hr; omega) (HNG.out.2 d hd r hr))
          have b8 : AboveX (V2.heap.size + 2) G W3 W5 := ⟨hab.size, fun k h1 h2 h3 => hab.block k (by omega) h2 fun h4 => by
            rcases HGG.out.1 k h4 with h | h
            · exact HG0b.out k (by omega) h
            · exact h3 h⟩
          have GG : Hid ((Fix2 l2 D2 W3 W5 ∧ ∃ G' : Nat → Prop, (∀ g, G' g → G g ∨ W3.heap.size ≤ g) ∧ ((∃ Gt, I Gt (posO O a (k + 1)) W5 ∧ (∀ g, Gt g → G0 g ∨ G' g) ∧ ∀ g, G' g → Gt g ∧ V2.heap.size + 2 ≤ g) ∧ Blk W5 y #[.func (.yield lid) #[] #[]] 117 ∧ Blk W5 ba #[.int .i64 (a : Nat)] 3 ∧ Blk W5 cs #[ptr t 0] 25 ∧ Blk W5 ca #[.int .i64 (a : Nat)] 3 ∧ Marks y W5 ds ∧ V2.heap.size ≤ W5.heap.size)) ∧ AboveX (V2.heap.size + 2) G W3 W5) := by
            refine Lib.hid ⟨⟨⟨b5, b6⟩, fun g => G5 g ∧ V2.heap.size + 2 ≤ g, fun g hg => ?_, ⟨G5, by rw [HP.out.1]; exact hI5, fun g hg => ?_, fun g hg => hg⟩, b1.trans K2.out, b2.trans K3.out, b3.trans K4.out, b4.trans K5.out, b7, by have := hab.size; omega⟩, b8⟩
            · rcases hG5 g hg.1 with h | h
              · rcases HGG.out.1 g h with h2 | h2
                · exact absurd h2 (HG0b.out g (by omega))
                · exact .inl h2
              · exact .inr h
            · rcases hG5 g hg with h | h
              · rcases HGG.out.1 g h with h2 | h2
                · exact .inl h2
                · exact .inr ⟨hg, (HGG.out.2 g h2).2⟩
              · exact .inr ⟨hg, by omega⟩
          clear hI5 hG5 hab hy hR2 q1 q2 b1 b2 b3 b4 b5 b6 b7 b8
          gi_wp2
          exact GG.out
        · have ny : y < V2.heap.size + 2 := by omega
          have b1 := hab.block y (by omega) (by omega) (HNT.out y (by omega) HNG.out.1)
          have b2 := hab.block ba (by omega) (by omega) (HNT.out ba (by omega) (HG0b.out ba (by omega)))
          have b3 := hab.block cs (by omega) (by omega) (HNT.out cs (by omega) (HG0b.out cs (by omega)))
          have b4 := hab.block ca (by omega) (by omega) (HNT.out ca (by omega) (HG0b.out ca (by omega)))
          have b5 := hab.block l2 (by omega) (by omega) (HNT.out l2 (by omega) (HG0b.out l2 (by omega)))
          have b6 := hab.block D2 (by omega) (by omega) (HNT.out D2 (by omega) (HG0b.out D2 (by omega)))
          have b7 : Marks y W5 ds := K6.out.keepD fun d hd r hr h1 h2 => hab.block r (by omega) h2 (HNT.out r (by have := HD2.out d hd r hr; omega) (HNG.out.2 d hd r hr))
          have b8 : AboveX (V2.heap.size + 2) G W3 W5 := ⟨hab.size, fun k h1 h2 h3 => hab.block k (by omega) h2 fun h4 => by
            rcases HGG.out.1 k h4 with h | h
            · exact HG0b.out k (by omega) h
            · exact h3 h⟩
          have GG : Hid ((Fix2 l2 D2 W3 W5 ∧ ((∃ k, k ≤ L.length ∧ Ix k W5) ∧ Marks y W5 ds ∧ V2.heap.size ≤ W5.heap.size)) ∧ AboveX (V2.heap.size + 2) G W3 W5) :=
            Lib.hid ⟨⟨⟨b5, b6⟩, ⟨_, HP.out.2, hx5⟩, b7, by have := hab.size; omega⟩, b8⟩
          clear hx5 hab hy hR2 q1 q2 b1 b2 b3 b4 b5 b6 b7 b8
          gi_wp2
          exact ⟨⟨GG.out.1.1, rfl, GG.out.1.2⟩, GG.out.2⟩
      · have hpos := posO_no HX.out hc
        have GG : Hid ((Fix2 l2 D2 W3 W3 ∧ ∃ G' : Nat → Prop, (∀ g, G' g → G g ∨ W3.heap.size ≤ g) ∧ ((∃ Gt, I Gt (posO O a (k + 1)) W3 ∧ (∀ g, Gt g → G0 g ∨ G' g) ∧ ∀ g, G' g → Gt g ∧ V2.heap.size + 2 ≤ g) ∧ Blk W3 y #[.func (.yield lid) #[] #[]] 117 ∧ Blk W3 ba #[.int .i64 (a : Nat)] 3 ∧ Blk W3 cs #[ptr t 0] 25 ∧ Blk W3 ca #[.int .i64 (a : Nat)] 3 ∧ Marks y W3 ds ∧ V2.heap.size ≤ W3.heap.size)) ∧ AboveX (V2.heap.size + 2) G W3 W3) :=
          Lib.hid ⟨⟨⟨rfl, rfl⟩, G, fun g hg => .inl hg, ⟨Gt, by rw [hpos]; exact hI3.out, HGG.out.1, HGG.out.2⟩, K2.out, K3.out, K4.out, K5.out, K6.out, by omega⟩, AboveX.refl _ _ _⟩
        clear hpos
        by_cases c1 : a < xb
        · have c1' : (a : Int) < (xb : Int) := by omega
          have c2' : ¬ (a : Int) < (xc : Int) := by omega
          clear hc c1
          gi_wp2
          refine ⟨by simp, ?_⟩
          gi_wp2
          exact GG.out
        · have c1' : ¬ (a : Int) < (xb : Int) := by omega
          clear hc c1
          gi_wp2
          refine ⟨by simp, ?_⟩
          gi_wp2
          exact GG.out
    case done =>
      rintro Dd G V5 g1 ⟨⟨Gt, j1, j8, j9⟩, j2, j3, j4, j5, j6, j7⟩ hD
      have hnt : ∀ g, g < V2.heap.size + 2 → ¬ G0 g → ¬ Gt g := fun g h1 h2 h3 => by
        rcases j8 g h3 with h | h
        · exact h2 h
        · have := j9 g h; omega
      have hnew : Hid (I Gt (posO O (a + 1) 0) V5 ∧ ¬ Gt y ∧ ∀ d, d ∈ ({ target := .collected Dd, args := #[] } :: ds : List Deferred) → ∀ r, d.target = .collected r → ¬ Gt r) := Lib.hid ⟨by rw [posO_0, ← posO_all, HLEN.out]; exact j1, hnt y (by omega) HNG.out.1, fun d hd r hr => by
        rcases List.mem_cons.1 hd with rfl | hd
        · injection hr with hr
          exact hnt r (by omega) fun h => by have := HG0.out r h; omega
        · exact hnt r (by have := HD2.out d hd r hr; omega) (HNG.out.2 d hd r hr)⟩
      have hmk : Hid (Marks y V5 ({ target := .collected Dd, args := #[] } :: ds)) := Lib.hid ⟨⟨Dd, rfl, by omega, hD, fun d hd r hr => by have := HD2.out d hd r hr; omega⟩, j6⟩
      have J2 := Lib.hid j2
      clear j1 j2 j3 j4 j5 j6 j8 j9 hnt hD hT
      gi_wp2_with fail
      rw [show ((a : Int) + 1) = ((a + 1 : Nat) : Int) by norm_cast]
      exact ⟨N - (a + 1), by omega, hJ _ _ _ ⟨_, _, _, _, _, _, _, _, _, _, _, _, _, _, _, _, _, _, _, _, _, _, _, _, _, _, _, _, _, a + 1, _, ⟨haN, Nat.le_refl _, hnew, J2, by omega, hmk⟩, rfl⟩⟩
    case stop =>
      rintro Dd c k V5 g1 ⟨rfl, ⟨k', j0, j2⟩, j6, j7⟩ hD
      have hmk : Hid (Marks y V5 ({ target := .collected Dd, args := #[] } :: ds)) := Lib.hid ⟨⟨Dd, rfl, by omega, hD, fun d hd r hr => by have := HD2.out d hd r hr; omega⟩, j6⟩
      have J2 := Lib.hid j2
      clear j2 j6 hD hT
      gi_wp2
      refine leaves_marks (B := B) hB (fun _ => False) _ V5 (by omega) hmk.out (fun _ _ _ _ h => h) fun w' hb => ?_
      exact ⟨_, results_none rfl _ _ _, ⟨_, rfl⟩, .inr ⟨k', j0, HH.out.2.2.1 _ V5 w' J2.out hb.1⟩⟩
  · have haN2 : a = N := by omega
    have HF := Lib.hid (show I G0 L.length wr by rw [← HL.out, ← haN2, ← posO_0]; exact HI.out.1)
    have HNG := Lib.hid HI.out.2
    clear HI
    gi_wp2
    refine leaves_marks (B := B) hB G0 ds wr (by omega) HM.out HNG.out.2 fun w' hb => ?_
    exact ⟨_, results_none rfl _ _ _, ⟨_, rfl⟩, .inl ⟨_, HH.out.2.1 _ _ wr w' HF.out hb⟩⟩
theorem All1_tells (bs t : Nat) (D : SD) (N : Nat) (X Y : Nat → Int) (O : Nat → List (Nat × Nat)) (n : Int) (L : List Tri3) (hL : preO O N = L) (B : Nat) :
    TellsX Try.prog 63 #[ptr bs 0] L.length (allE L) B (fun W => Blk W bs #[ptr t 0] 25 ∧ SM W t D N X Y O n) :=
  fun m lid I Ix hK hG hst hxst hY W hB h0 => All1_any m lid bs t B D N X Y O n L hL I Ix hK hG hst hxst hY W hB h0
end Go.Proofs.Ytdlpfiiakmhnlaa

namespace Go.Proofs.Ytdlpfiiakmhnlaa
open Go.RowKit Go.Shelf
attribute [local go_sem] Oper.semAt_some

def tC (l : List Tri3) : List Value := l.flatMap fun t => [.int .i64 (t.1 : Nat), .int .i64 (t.2.1 : Nat), .int .i64 (t.2.2 : Nat)]
/-- an owned slice of triangles -/
def TL (w : World) (base : Nat) (v : Value) (L : List Tri3) : Prop := w.ownsRow base 35 3 v L.length (tC L)
theorem TL.none {w : World} {base : Nat} : TL w base (.slice none 0 0) [] := ⟨rfl, .inl ⟨rfl, rfl⟩⟩
theorem tC_app (l m : List Tri3) : tC (l ++ m) = tC l ++ tC m := by unfold tC; rw [List.flatMap_append]
theorem info_tri : (Try.prog.info? 35).map (fun i => (i.zero, i.size, i.bytes)) = some (some (.agg #[.int .i64 0, .int .i64 0, .int .i64 0]), 3, 24) := by kernel_rfl
theorem TL.of {w w' : World} {base : Nat} {v : Value} {L : List Tri3} (h : TL w base v L) (hb : ∀ g, v.ownBlock = some g → w'.heap[g]? = w.heap[g]?) : TL w' base v L := by
  refine ⟨h.1, h.2.imp id ?_⟩
  rintro ⟨g, cap, cur, rfl, hbg, hh, r⟩
  exact ⟨g, cap, cur, rfl, hbg, (hb g rfl).trans hh, r⟩
theorem own_belowT {w w' : World} {base : Nat} {v : Value} {n : Nat} {xs : List Value} {e : TypeId} {sz : Nat} (h : w.ownsRow base e sz v n xs) (hb : Below w.heap.size w w') : w'.ownsRow base e sz v n xs := by
  refine ⟨h.1, h.2.imp id ?_⟩
  rintro ⟨g, cap, cur, rfl, hbg, hg, r⟩
  exact ⟨g, cap, cur, rfl, hbg, (hb.block _ (Array.getElem?_eq_some_iff.1 hg).1).trans hg, r⟩
theorem TL.lt {w : World} {base : Nat} {v : Value} {L : List Tri3} (h : TL w base v L) {g : Nat} (hg : v.ownBlock = some g) : base ≤ g ∧ g < w.heap.size := World.ownsRow.lt h g hg
set_option maxRecDepth 100000 in
set_option maxHeartbeats 2000000 in
theorem all_is (t : Nat) (D : SD) (N : Nat) (X Y : Nat → Int) (O : Nat → List (Nat × Nat)) (n : Int) (L : List Tri3) (hL : preO O N = L) (hlen : L.length < 100000000) (w : World) (h : SM w t D N X Y O n) :
    Calls Try.prog 18 #[ptr t 0] w fun e w' => ∃ v, e = .returned v ∧ TL w' w.heap.size v L ∧ Below w.heap.size w w' := by
  have HS := Lib.hid h
  have HLN := Lib.hid hlen
  clear h hlen
  refine (callsIn_wide (n := 3)).1 ?_
  refine callsIn_of_wp_marks Try.func18 rfl trivial ?_ rfl
  simp only [Try.ntmps18, List.size_toArray, List.length_cons, List.length_nil, Nat.reduceAdd, Nat.reduceSub, Array.replicate_succ, Array.replicate_zero, List.push_toArray, List.append_toArray, List.nil_append, List.cons_append]
  gi_wp2_with fail
  refine ⟨trivial, callsIn_wide.2 ?_⟩
  refine calls_w ?_
  intro V hV
  have kO : Blk V w.heap.size #[.slice none 0 0] 38 := by rw [hV]; exact Blk.new w _ _
  have hbV : Below w.heap.size w V := by rw [hV]; exact below_a1 _ _
  clear hV
  refine (All_is t V).mono ?_
  rintro e V2 ⟨rfl, kS, hb2⟩
  have kO2 := kO.of hb2
  have S2 := Lib.hid (HS.out.of (hbV.trans (hb2.mono hbV.size)))
  have hbw2 := hbV.trans (hb2.mono hbV.size)
  have z1 := kO.lt
  have z2 := kS.lt
  have zt := HS.out.blk.lt
  obtain ⟨ob, eob⟩ : ∃ b, w.heap.size = b := ⟨_, rfl⟩
  obtain ⟨bs, ebs⟩ : ∃ b, V.heap.size = b := ⟨_, rfl⟩
  have o1 : ob < bs := by omega
  have o2 : w.heap.size ≤ ob := by omega
  rw [ebs] at kS z2 ⊢
  rw [eob] at kO2
  rw [show w.heap.size = ob from eob]
  clear kO ebs eob hb2 hbV z1
  gi_wp2_with fail
  have hwV := hbw2.size
  have zt2 : t < w.heap.size := HS.out.blk.lt
  refine wpIn_rangeX (m := 1) (gf := 63) (lb := #[ptr bs 0]) (N := L.length) (encs := allE L) (Kp := fun W => Blk W bs #[ptr t 0] 25 ∧ SM W t D N X Y O n) rfl (fun args w => by go_simp) (All1_tells bs t D N X Y O n L hL _) (fun _ => rfl)
    (fun G k W => ∃ v, Blk W ob #[v] 38 ∧ TL W (V2.heap.size + 2) v (L.take k) ∧ Blk W bs #[ptr t 0] 25 ∧ Below w.heap.size w W ∧ ∀ g, G g ↔ v.ownBlock = some g)
    (fun _ _ _ => False) ?hg ?stable (fun _ _ _ _ h _ => h.elim) ?keeps ?start ?round ?done (fun _ _ _ _ _ h _ => h.elim)
  case hg =>
    rintro G k W ⟨v, j1, j2, j3, j4, j5⟩ g hg
    exact j2.lt ((j5 g).1 hg)
  case stable =>
    rintro G k W W' ⟨v, j1, j2, j3, j4, j5⟩ ⟨hbl, hbg⟩
    exact ⟨v, j1.below hbl (by omega), j2.of fun g hg => hbg g ((j5 g).2 hg) (j2.lt hg).2, j3.below hbl (by omega), j4.trans (hbl.mono (by omega)), j5⟩
  case keeps =>
    rintro G k W ⟨v, j1, j2, j3, j4, j5⟩
    exact ⟨j3, HS.out.of j4⟩
  case start => exact ⟨_, kO2, TL.none, kS, hbw2, fun g => ⟨fun h => h.elim, fun h => by cases h⟩⟩
  case round =>
    rintro l2 D2 k G W2 hk ⟨v, j1, j2, j3, j4, j5⟩ g1 g2 g3 g4
    obtain ⟨⟨a, b, c⟩, hx⟩ : ∃ x, L[k]? = some x := ⟨_, List.getElem?_eq_getElem hk⟩
    have hE : allE L k = #[tI a b c] := by unfold allE; rw [List.getD_eq_getElem?_getD, hx]; rfl
    rw [hE]
    have JJ := Lib.hid (And.intro j1 (And.intro j2 (And.intro j3 (And.intro j4 j5))))
    have HX := Lib.hid hx
    clear j1 j2 j3 j4 j5 hE hx
    gi_wp2_with fail
    have ha1 := below_a1 W2 (.cells #[.int .i64 (a : Nat), .int .i64 (b : Nat), .int .i64 (c : Nat)] 36)
    refine ⟨⟨⟨ha1.block _ g3, ha1.block _ g4⟩, .ofAbove (.ofBelow ha1)⟩, ?_⟩
    intro W3 hW3
    obtain ⟨j1, j2, j3, j4, j5⟩ := JJ.out
    have kT : Blk W3 W2.heap.size #[.int .i64 (a : Nat), .int .i64 (b : Nat), .int .i64 (c : Nat)] 36 := (Blk.new W2 _ _).outl hW3 (by simp; omega)
    have kO3 : Blk W3 ob #[v] 38 := (j1.of ha1).outl hW3 (by simp; omega)
    have KS3 := Lib.hid (show Blk W3 bs #[ptr t 0] 25 from (j3.of ha1).outl hW3 (by simp; omega))
    have T3 : TL W3 (V2.heap.size + 2) v (L.take k) := j2.of fun g hg => by
      have := j2.lt hg
      exact (hW3.block g (by simp; omega) (by simp; omega)).trans (ha1.block g this.2)
    have B3 := Lib.hid (show Below w.heap.size w W3 from (j4.trans (ha1.mono (by have := j4.size; omega))).trans (hW3.below (by have := j4.size; simp; omega) (by simp; omega)))
    have hl : (L.take k).length = k := by rw [List.length_take]; omega
    unfold TL at T3
    rw [hl] at T3
    have T3L := Lib.hid T3
    have x0 := kO3.cell 0
    have t0 := kT.cell 0
    have t1 := kT.cell 1
    have t2 := kT.cell 2
    simp only [List.getElem?_toArray, List.getElem?_cons_zero, List.getElem?_cons_succ] at x0 t0 t1 t2
    have lO := kO3.lt
    have lT := kT.lt
    have KO3 := Lib.hid kO3
    have J5 := Lib.hid j5
    have hsz3 : V2.heap.size + 2 ≤ W3.heap.size := by have := hW3.size; simp at this; omega
    obtain ⟨i0, hi, hz0, hz1, hz2⟩ := info_parts info_tri
    clear j1 j2 j3 j4 j5 JJ kT kO3 hl ha1 hW3
    have hown := own_belowT T3L.out (below_a1 W3 (.cells #[.int .i64 (a : Nat), .int .i64 (b : Nat), .int .i64 (c : Nat)] 35))
    gi_wp2_with (gi_at_builtin; go_loud (refine wpListIn_append_own_at _ rfl _ _ 38 rfl (V2.heap.size + 2) 35 i0 (.agg #[.int .i64 0, .int .i64 0, .int .i64 0]) 3 24 Try.underlying38 hi hz0 hz1 hz2 rfl (by decide) v k (tC (L.take k)) rfl hown ⟨W3.heap.size, 0, none⟩ 1 1 [.int .i64 (a : Nat), .int .i64 (b : Nat), .int .i64 (c : Nat)] rfl rfl ?c1 ?c2 ?c3 ?c4 ?c5 ?_))
    case c1 =>
      intro j u hj
      match j, hj with
      | 0, hj => simp at hj; subst hj; exact (Blk.new W3 _ _).cell 0
      | 1, hj => simp at hj; subst hj; exact (Blk.new W3 _ _).cell 1
      | 2, hj => simp at hj; subst hj; exact (Blk.new W3 _ _).cell 2
      | j + 3, hj => simp at hj
    case c2 => intro u hu; simp at hu; rcases hu with rfl | rfl | rfl <;> rfl
    case c3 => unfold maxLen; have := HLN.out; omega
    case c4 => have := HLN.out; omega
    case c5 => simp; omega
    intro v1 w1 own1 gr1 _ hat
    obtain ⟨aa, ll, cc, hv1⟩ : ∃ aa ll cc, v1 = .slice aa ll cc := by rcases own1.2 with ⟨e, _⟩ | ⟨g, cap, cur, e, _⟩ <;> exact ⟨_, _, _, e⟩
    subst hv1
    have hsa : (W3.alloc (.cells #[.int .i64 (a : Nat), .int .i64 (b : Nat), .int .i64 (c : Nat)] 35)).heap.size = W3.heap.size + 1 := by simp
    have hown2 : ∀ g, v.ownBlock = some g → V2.heap.size + 2 ≤ g := fun g hg => (World.ownsRow.lt T3L.out g hg).1
    have hW1 : ∀ g, g < W3.heap.size → v.ownBlock ≠ some g → w1.heap[g]? = W3.heap[g]? := fun g h1 h2 => (gr1.block g (by omega) (fun e => h2 e.symm)).trans ((below_a1 W3 _).block g h1)
    have hWf : ∀ g, g ≠ ob → (w1.setCell ⟨ob, 0, none⟩ (.slice aa ll cc)).heap[g]? = w1.heap[g]? := fun g h => Below.heap_setCell w1 ⟨ob, 0, none⟩ (.slice aa ll cc) g h
    have hss : W3.heap.size ≤ w1.heap.size := by have := gr1.size; omega
    have hsf : (w1.setCell ⟨ob, 0, none⟩ (.slice aa ll cc)).heap.size = w1.heap.size := by simp [World.setCell]
    have KO1 : Blk w1 ob #[v] 38 := (hW1 ob lO (fun e => by have := hown2 _ e; omega)).trans KO3.out
    have x1 := KO1.cell 0
    have f1 := KO1.free 0
    have l1 := KO1.lt
    simp only [List.getElem?_toArray, List.getElem?_cons_zero] at x1
    have GG : Hid ((Fix2 l2 D2 W3 (w1.setCell ⟨ob, 0, none⟩ (.slice aa ll cc)) ∧ ∃ G' : Nat → Prop, (∀ g, G' g → G g ∨ W3.heap.size ≤ g) ∧ ∃ v, Blk (w1.setCell ⟨ob, 0, none⟩ (.slice aa ll cc)) ob #[v] 38 ∧ TL (w1.setCell ⟨ob, 0, none⟩ (.slice aa ll cc)) (V2.heap.size + 2) v (L.take (k + 1)) ∧ Blk (w1.setCell ⟨ob, 0, none⟩ (.slice aa ll cc)) bs #[ptr t 0] 25 ∧ Below w.heap.size w (w1.setCell ⟨ob, 0, none⟩ (.slice aa ll cc)) ∧ ∀ g, G' g ↔ v.ownBlock = some g) ∧ AboveX (V2.heap.size + 2) G W3 (w1.setCell ⟨ob, 0, none⟩ (.slice aa ll cc))) := by
      have fx : ∀ g, g < W3.heap.size → v.ownBlock ≠ some g → g ≠ ob → (w1.setCell ⟨ob, 0, none⟩ (.slice aa ll cc)).heap[g]? = W3.heap[g]? := fun g h1 h2 h3 => (hWf g h3).trans (hW1 g h1 h2)
      have nO : ∀ g, g < V2.heap.size + 2 → v.ownBlock ≠ some g := fun g h e => by have := hown2 g e; omega
      refine Lib.hid ⟨⟨⟨fx l2 (by omega) (nO _ (by omega)) (by omega), fx D2 (by omega) (nO _ (by omega)) (by omega)⟩, fun g => (Value.slice aa ll cc).ownBlock = some g, fun g hg => ?_, .slice aa ll cc, KO1.put 0 (.slice aa ll cc), ?_, (fx bs KS3.out.lt (nO _ (by omega)) (by omega)).trans KS3.out, ?_, fun g => Iff.rfl⟩, ?_⟩
      · rcases hat with e | e
        · exact .inl ((J5.out g).2 (by rw [← e]; exact hg))
        · rw [e] at hg; injection hg with hg; exact .inr (by omega)
      · have h1 : TL w1 (V2.heap.size + 2) (.slice aa ll cc) (L.take (k + 1)) := by
          have e : L.take (k + 1) = L.take k ++ [(a, b, c)] := by rw [List.take_add_one, HX.out]; rfl
          unfold TL
          rw [e, tC_app, List.length_append, List.length_take, show min k L.length = k by omega]
          exact own1
        exact h1.of fun g hg => hWf g (by have := (h1.lt hg).1; omega)
      · have gb : Below w.heap.size W3 (w1.setCell ⟨ob, 0, none⟩ (.slice aa ll cc)) := ⟨gr1.os, gr1.tape, gr1.output, by omega, fun g hg => fx g (by omega) (nO g (by omega)) (by omega)⟩
        exact B3.out.trans gb
      · exact ⟨by omega, fun g h1 h2 h3 => fx g h2 (fun e => h3 ((J5.out g).2 e)) (by omega)⟩
    clear own1 gr1 hat hown hsa hW1 hWf KO1 x0 t0 t1 t2 T3L
    gi_wp2
    exact GG.out
  case done =>
    rintro Dd G V5 g1 ⟨v, j1, j2, j3, j4, j5⟩ hD
    have c0 := j1.cell 0
    simp only [List.getElem?_toArray, List.getElem?_cons_zero] at c0
    rw [List.take_length] at j2
    have l0 := j1.lt
    have JJ := Lib.hid (And.intro j2 j4)
    clear j1 j2 j3 j4 j5
    gi_wp2
    refine ⟨by simp, .inl ⟨_, _, rfl, run_takeDeferred hD, ?_⟩⟩
    simp only [LeavesInM, LeavesIn]
    refine ⟨v, by simp [results, Try.results18, go_sem], v, rfl, ?_, ?_⟩
    · have h1 : TL (V5.putObj Dd (.deferred none)) (V2.heap.size + 2) v L := JJ.out.1.of fun g hg => World.putObj_heap_other (by have := (JJ.out.1.lt hg).1; omega)
      rcases h1.2 with h2 | ⟨g, cap, cur, e1, e2, e3, e4⟩
      · exact ⟨h1.1, .inl h2⟩
      · exact ⟨h1.1, .inr ⟨g, cap, cur, e1, by omega, e3, e4⟩⟩
    · exact JJ.out.2.trans ((putObj_out V5 Dd _).below (by have := JJ.out.2.size; omega) (by simp; omega))
end Go.Proofs.Ytdlpfiiakmhnlaa

namespace Go.Proofs.Ytdlpfiiakmhnlaa
open Go.RowKit

/-- the sides put, and the hull around them -/
structure Brd (h : List Nat) (l : List Tri3) : Prop where
  way : ∀ i, i < h.length → gSd l (gH h i) (gH h ((i + 1) % h.length))
  rev : ∀ a b, gSd l a b → gSd l b a ∨ ∃ i, i < h.length ∧ a = gH h i ∧ b = gH h ((i + 1) % h.length)
theorem Sd_l {l l' : List Tri3} {a b : Nat} (h : gSd l a b) : gSd (l ++ l') a b := by
  obtain ⟨t, ht, s⟩ := h; exact ⟨t, List.mem_append_left _ ht, s⟩
theorem Sd_r {l l' : List Tri3} {a b : Nat} (h : gSd l' a b) : gSd (l ++ l') a b := by
  obtain ⟨t, ht, s⟩ := h; exact ⟨t, List.mem_append_right _ ht, s⟩
theorem begT_mem {b : List Nat} {q k : Nat} (hk : k < q - 1) : (gH b k, gH b (k + 1), q) ∈ begT b q := List.mem_iff_getElem?.2 ⟨k, begT_at b q k hk⟩
theorem addT_mem2 {h : List Nat} {p f j k : Nat} (hk : k < j) : (gH h ((f + k) % h.length), p, gH h ((f + (k + 1)) % h.length)) ∈ addT h p f j := by
  refine List.mem_iff_getElem?.2 ⟨k, ?_⟩
  rw [addT_at h p f j k hk]
  show some (_, _, gH h (((f + k) % h.length + 1) % h.length)) = _
  rw [Nat.mod_add_mod]; rfl
theorem beg_brd {b : List Nat} {q : Nat} (h2 : 2 ≤ q) (hb : b.length = q) : Brd (b ++ [q]) (begT b q) := by
  have ll : (b ++ [q]).length = q + 1 := by simp [hb]
  have gq : gH (b ++ [q]) q = q := by have := gH_app2 b q; rwa [hb] at this
  have gi : ∀ i, i < q → gH (b ++ [q]) i = gH b i := fun i hi => gH_app _ _ i (by omega)
  refine ⟨fun i hi => ?_, fun x y ⟨t, ht, s⟩ => ?_⟩
  · rw [ll] at hi ⊢
    rcases Nat.lt_or_ge i q with h | h
    · rw [Nat.mod_eq_of_lt (by omega), gi i h]
      rcases Nat.lt_or_ge (i + 1) q with h4 | h4
      · rw [gi _ h4]
        exact ⟨_, begT_mem (show i < q - 1 by omega), .inl ⟨rfl, rfl⟩⟩
      · rw [show i + 1 = q by omega, gq]
        exact ⟨_, begT_mem (show q - 2 < q - 1 by omega), .inr (.inl ⟨by rw [show q - 2 + 1 = i by omega], rfl⟩)⟩
    · rw [show i = q by omega, Nat.mod_self, gq, gi 0 (by omega)]
      exact ⟨_, begT_mem (show 0 < q - 1 by omega), .inr (.inr ⟨rfl, rfl⟩)⟩
  · obtain ⟨k, hk⟩ := List.mem_iff_getElem?.1 ht
    obtain ⟨hk, rfl⟩ := begT_get _ _ _ _ hk
    rcases s with ⟨e1, e2⟩ | ⟨e1, e2⟩ | ⟨e1, e2⟩ <;> simp only [] at e1 e2 <;> rw [e1, e2] <;> clear e1 e2
    · refine .inr ⟨k, by omega, (gi k (by omega)).symm, ?_⟩
      rw [ll, Nat.mod_eq_of_lt (by omega), gi _ (by omega)]
    · rcases Nat.lt_or_ge (k + 1) (q - 1) with h | h
      · exact .inl ⟨_, begT_mem h, .inr (.inr ⟨rfl, rfl⟩)⟩
      · refine .inr ⟨k + 1, by omega, (gi _ (by omega)).symm, ?_⟩
        rw [ll, Nat.mod_eq_of_lt (by omega), show k + 1 + 1 = q by omega, gq]
    · cases k with
      | zero =>
        refine .inr ⟨q, by omega, gq.symm, ?_⟩
        rw [ll, Nat.mod_self, gi 0 (by omega)]
      | succ k => exact .inl ⟨_, begT_mem (show k < q - 1 by omega), .inr (.inl ⟨rfl, rfl⟩)⟩
theorem Brd.next {h : List Nat} {l : List Tri3} (B : Brd h l) (h3 : 3 ≤ h.length) {p f j : Nat} (hf : f < h.length) (hj0 : 0 < j) (hj1 : j < h.length) : Brd (addH h p f j) (l ++ addT h p f j) := by
  have ml : ∀ k, k % h.length < h.length := fun k => Nat.mod_lt _ (by omega)
  have hl := addH_len (h := h) p f j
  have f0 : gH h f = gH h ((f + 0) % h.length) := by rw [show (f + 0) % h.length = f from Nat.mod_eq_of_lt hf]
  have nx2 : ∀ c, c < h.length - j → gH (addH h p f j) ((c + 2 + 1) % (addH h p f j).length) = gH h ((f + j + c + 1) % h.length) := fun c hc => by
    rcases Nat.lt_or_ge (c + 1) (h.length - j) with h4 | h4
    · rw [Nat.mod_eq_of_lt (by omega), show c + 2 + 1 = (c + 1) + 2 by omega, addH_2 _ _ _ _ h4, show f + j + (c + 1) = f + j + c + 1 by omega]
    · rw [show c + 2 + 1 = (addH h p f j).length by omega, Nat.mod_self, addH_0, show f + j + c + 1 = f + h.length by omega, Nat.add_mod_right, Nat.mod_eq_of_lt hf]
  refine ⟨fun i hi => ?_, fun x y s => ?_⟩
  · match i, hi with
    | 0, _ =>
      rw [show (0 + 1) % (addH h p f j).length = 1 from Nat.mod_eq_of_lt (by omega), addH_1, addH_0, f0]
      exact Sd_r ⟨_, addT_mem2 hj0, .inl ⟨rfl, rfl⟩⟩
    | 1, _ =>
      rw [show (1 + 1) % (addH h p f j).length = 0 + 2 from Nat.mod_eq_of_lt (by omega), addH_2 _ _ _ _ (by omega), addH_1]
      exact Sd_r ⟨_, addT_mem2 (show j - 1 < j by omega), .inr (.inl ⟨rfl, by rw [show f + (j - 1 + 1) = f + j + 0 by omega]⟩)⟩
    | c + 2, hi =>
      have hc : c < h.length - j := by omega
      rw [nx2 c hc, addH_2 _ _ _ _ hc]
      have := B.way ((f + j + c) % h.length) (ml _)
      rw [Nat.mod_add_mod] at this
      exact Sd_l this
  · rcases Sd_app s with s | ⟨t, ht, s⟩
    · rcases B.rev x y s with s | ⟨i, hi, rfl, rfl⟩
      · exact .inl (Sd_l s)
      · obtain ⟨k, hk, rfl⟩ : ∃ k, k < h.length ∧ i = (f + k) % h.length := by
          rcases Nat.lt_or_ge i f with h4 | h4
          · exact ⟨i + h.length - f, by omega, by rw [show f + (i + h.length - f) = i + h.length by omega, Nat.add_mod_right, Nat.mod_eq_of_lt hi]⟩
          · exact ⟨i - f, by omega, by rw [show f + (i - f) = i by omega, Nat.mod_eq_of_lt hi]⟩
        rw [Nat.mod_add_mod]
        rcases Nat.lt_or_ge k j with h4 | h4
        · exact .inl (Sd_r ⟨_, addT_mem2 h4, .inr (.inr ⟨rfl, rfl⟩)⟩)
        · refine .inr ⟨k - j + 2, by omega, ?_, ?_⟩
          · rw [addH_2 _ _ _ _ (by omega), show f + j + (k - j) = f + k by omega]
          · rw [nx2 _ (by omega), show f + j + (k - j) + 1 = f + k + 1 by omega]
    · obtain ⟨k, hk, rfl⟩ := addT_mem _ _ _ _ ht
      rcases s with ⟨e1, e2⟩ | ⟨e1, e2⟩ | ⟨e1, e2⟩ <;> simp only [] at e1 e2 <;> rw [e1, e2] <;> clear e1 e2
      · cases k with
        | zero =>
          refine .inr ⟨0, by omega, by rw [addH_0, f0], ?_⟩
          rw [show (0 + 1) % (addH h p f j).length = 1 from Nat.mod_eq_of_lt (by omega), addH_1]
        | succ k => exact .inl (Sd_r ⟨_, addT_mem2 (show k < j by omega), .inr (.inl ⟨rfl, rfl⟩)⟩)
      · rcases Nat.lt_or_ge (k + 1) j with h4 | h4
        · exact .inl (Sd_r ⟨_, addT_mem2 h4, .inl ⟨rfl, rfl⟩⟩)
        · refine .inr ⟨1, by omega, by rw [addH_1], ?_⟩
          rw [show (1 + 1) % (addH h p f j).length = 0 + 2 from Nat.mod_eq_of_lt (by omega), addH_2 _ _ _ _ (by omega), show f + (k + 1) = f + j + 0 by omega]
      · have := B.way ((f + k) % h.length) (ml _)
        rw [Nat.mod_add_mod] at this
        exact .inl (Sd_l this)
/-- what lies around, behind q + k points -/
theorem bld_brd {N q : Nat} {X Y : Nat → Int} (hg : allC N X Y = true) (hr : risC N X Y) (hl : isLn N X Y q) (hq : q < N) : ∀ k, q + k < N → Brd (bld X Y q k).1 (bld X Y q k).2 := by
  intro k
  have h2 : 2 ≤ q := by have := hl.1; omega
  induction k with
  | zero => intro _; exact beg_brd h2 (begH_len X Y q)
  | succ k ih =>
    intro hk
    have A := bld_add (sX_ris hg hr) (wy_gT hg) h2 hq (fun i h1 h2 => hl.2.2.1 i h1 h2) (hl.2.2.2 hq) k hk
    exact (ih (by omega)).next (bld_st hg hr hl hq k (by omega)).1.len A.f0 A.j0 A.j1
end Go.Proofs.Ytdlpfiiakmhnlaa

namespace Go.Proofs.Ytdlpfiiakmhnlaa
open Go.RowKit

/-- the next one around: the first end to which there is a side without a reverse -/
def nxtO (O : Nat → List (Nat × Nat)) (a : Nat) : Option Nat := ((O a).find? fun x => (lookH (O x.1) a).isNone).map (·.1)
structure HC (N : Nat) (O : Nat → List (Nat × Nat)) (H : List Nat) : Prop where
  pos : 0 < H.length
  len : H.length ≤ N
  zero : gH H 0 = 0
  nz : ∀ i, 0 < i → i < H.length → gH H i ≠ 0
  lt : ∀ i, i < H.length → gH H i < N
  nxt : ∀ i, i < H.length → nxtO O (gH H i) = some (gH H ((i + 1) % H.length))
theorem rep_mem {O : Nat → List (Nat × Nat)} {S : Nat → Nat → Prop} (h : RepS O S) {a : Nat} {x : Nat × Nat} (hx : x ∈ O a) : S a x.1 := by
  refine Classical.byContradiction fun hn => ?_
  exact lookH_absent ((h.2 a x.1).2 hn) x hx rfl
theorem rep_has {O : Nat → List (Nat × Nat)} {S : Nat → Nat → Prop} (h : RepS O S) {a b : Nat} (hs : S a b) : ∃ x, x ∈ O a ∧ x.1 = b := by
  refine Classical.byContradiction fun hn => ?_
  refine (h.2 a b).1 (lookH_none fun x hx he => hn ⟨x, hx, by omega⟩) hs
def rotH (h : List Nat) (z : Nat) : List Nat := (List.range h.length).map fun k => gH h ((z + k) % h.length)
theorem rotH_len (h : List Nat) (z : Nat) : (rotH h z).length = h.length := by unfold rotH; simp
theorem rotH_at {h : List Nat} {z k : Nat} (hk : k < h.length) : gH (rotH h z) k = gH h ((z + k) % h.length) := by
  show ((List.range h.length).map fun k => gH h ((z + k) % h.length)).getD k 0 = _
  rw [List.getD_eq_getElem?_getD, List.getElem?_map, List.getElem?_range hk]; rfl
theorem nxt_of {X Y : Nat → Int} {m : Nat} {h : List Nat} {l : List Tri3} {O : Nat → List (Nat × Nat)} (H : Hul X Y m h) (B : Bnd m h l) (R : Brd h l) (hO : RepS O (gSd l)) {i : Nat} (hi : i < h.length) : nxtO O (gH h i) = some (gH h ((i + 1) % h.length)) := by
  obtain ⟨x0, hm, he⟩ := rep_has hO (R.way i hi)
  have hp : (lookH (O x0.1) (gH h i : Nat)).isNone = true := by
    rw [he, (hO.2 _ _).2 (B.new i hi)]; rfl
  unfold nxtO
  cases hf : (O (gH h i)).find? fun x => (lookH (O x.1) (gH h i : Nat)).isNone with
  | none => exact absurd hp (by rw [List.find?_eq_none] at hf; exact hf x0 hm)
  | some y =>
    have hy := List.find?_some hf
    have hym := List.mem_of_find?_eq_some hf
    have s1 := rep_mem hO hym
    have s2 : ¬ gSd l y.1 (gH h i) := (hO.2 _ _).1 (by rw [Option.isNone_iff_eq_none] at hy; exact hy)
    rcases R.rev _ _ s1 with s3 | ⟨i', hi', e1, e2⟩
    · exact absurd s3 s2
    · have := H.nd _ _ hi hi' e1
      subst this
      show some y.1 = _
      rw [e2]
theorem hc_of {X Y : Nat → Int} {N m : Nat} {h : List Nat} {l : List Tri3} {O : Nat → List (Nat × Nat)} (H : Hul X Y m h) (B : Bnd m h l) (R : Brd h l) (hO : RepS O (gSd l)) (hN : N = m + 1) : ∃ z, z < h.length ∧ gH h z = 0 ∧ HC N O (rotH h z) := by
  obtain ⟨z, hz, hz0⟩ := H.zero
  have h3 := H.len
  have ml : ∀ k, k % h.length < h.length := fun k => Nat.mod_lt _ (by omega)
  have hl := rotH_len h z
  refine ⟨z, hz, hz0, by omega, by have := B.hln; omega, ?_, fun i h0 hi => ?_, fun i hi => ?_, fun i hi => ?_⟩
  · rw [rotH_at (by omega), Nat.add_zero, Nat.mod_eq_of_lt hz, hz0]
  · rw [hl] at hi
    rw [rotH_at hi]
    intro e
    have := H.nd _ _ (ml _) hz (e.trans hz0.symm)
    have h5 : i = 0 := g_mod_inj (f := z) hi (by omega) (by rw [this, Nat.add_zero, Nat.mod_eq_of_lt hz])
    omega
  · rw [hl] at hi
    rw [rotH_at hi]
    have := H.le _ (ml (z + i)); omega
  · rw [hl] at hi ⊢
    rw [rotH_at hi, rotH_at (ml _), nxt_of H B R hO (ml _), Nat.mod_add_mod]
    congr 2
    rw [show z + i + 1 = z + (i + 1) by omega, Nat.add_mod_mod]
end Go.Proofs.Ytdlpfiiakmhnlaa

namespace Go.Proofs.Ytdlpfiiakmhnlaa
open Go.RowKit Go.Shelf
attribute [local go_sem] Oper.semAt_some undef

theorem stepR_scope {P : Program} {b : Frame} {a : Act} {k : List Item} {cs : List Frame} {w : World} {c : Code} : step P (lone (b.atR a (.code (.scope c) :: k)) cs w) = .next (lone (b.atR a (.code c :: .inScope c :: k)) cs w) :=
  step_lone_go (by simp [stepG, stepG.exec, Frame.atR])
theorem stepR_inScope {P : Program} {b : Frame} {a : Act} {k : List Item} {cs : List Frame} {w : World} {c : Code} : step P (lone (b.atR a (.inScope c :: k)) cs w) = .next (lone (b.atR a k) cs w) :=
  step_lone_go (by simp [stepG, stepG.exec, Frame.atR])
theorem wpIn_scope {F : Fence} {n : Nat} {P : Program} {Q : Exit → Act → World → Prop} {a : Act} {w : World} {c : Code} (h : c.wpIn F n P (Exit.noGoto Q) a w) : (Code.scope c).wpIn F n P Q a w := by
  intro b k cs hro hb hr
  have h0 : (lone (b.atR a (.code (.scope c) :: k)) cs w).fenced P F := fenced_calm hb hr rfl
  obtain ⟨e, a₁, w₁, hq, harr⟩ := h b (.inScope c :: k) cs hro hb hr
  cases e with
  | normal => exact ⟨.normal, a₁, w₁, hq, .head h0 stepR_scope (StepsIn.trans harr (.one (fenced_calm hb hr rfl) stepR_inScope))⟩
  | exit id =>
    have hx : exitTo id (.inScope c :: k) = exitTo id k := by simp [exitTo]
    exact ⟨.exit id, a₁, w₁, hq, fun k' hk => .head h0 stepR_scope (harr.1 k' (by rw [hx]; exact hk)),
      fun hr' hk => let ⟨k₁, h1, h2⟩ := harr.2 hr' (by rw [hx]; exact hk); ⟨k₁, h1, .head h0 stepR_scope h2⟩⟩
  | goto l => exact hq.elim
  | ret => exact ⟨_, a₁, w₁, hq, .of_steps (.one h0 stepR_scope) harr⟩
  | panic ch => exact ⟨_, a₁, w₁, hq, .of_steps (.one h0 stepR_scope) harr⟩
  | outgrown => exact ⟨_, a₁, w₁, hq, .of_steps (.one h0 stepR_scope) harr⟩
theorem wpListIn_append_nl {F : Fence} {nF : Nat} {w : World} {ops : Array Oper} {rest : List Oper} {o : Oper} {a : Act} {Q : Exit → Act → World → Prop} (hgd : o.guard = none) (s x : Operand)
    (ho : o.op = .call { callee := .builtin .append, args := #[s, x], argTypes := #[29, 29] })
    (base : Nat) (v : Value) (L : List Nat) (y : Nat) (vb : Nat) (hs : a.eval s = v) (hx : a.eval x = .slice (some ⟨vb, 0, none⟩) 1 1) (hb : Blk w vb #[.int .i64 (y : Nat)] 3)
    (hnl : NL w base v L) (hL : L.length < 100000) (hbase : base ≤ w.heap.size)
    (h : ∀ ao n cap w', n = L.length + 1 → NL w' base (.slice ao n cap) (L ++ [y]) → w.grownBy w' v.ownBlock → wpListIn F nF Try.prog ops Q rest (a.put o.dst (.slice ao n cap)) w') : wpListIn F nF Try.prog ops Q (o :: rest) a w := by
  obtain ⟨i0, hi, hz0, hz1, hz2⟩ := info_parts info_int
  refine wpListIn_append_own_at _ hgd s x 29 ho base 3 i0 (.int .i64 0) 1 8 Try.underlying29 hi hz0 hz1 hz2 rfl (by decide) v L.length _ hs hnl ⟨vb, 0, none⟩ 1 1 [.int .i64 y] hx rfl (int_src hb) (int_one _) (by unfold maxLen; omega) (by omega) hbase ?_
  intro v' w' own gr _ _
  have hn : NL w' base v' (L ++ [y]) := by
    unfold NL
    rw [List.length_append, List.map_append]; exact own
  obtain ⟨ao, cap, rfl, _⟩ := hn.val
  exact h ao _ cap w' (by simp) hn gr
theorem NL.low2 {w : World} {base base' : Nat} {v : Value} {L : List Nat} (h : NL w base v L) (hb : base' ≤ base) : NL w base' v L := by
  refine ⟨h.1, h.2.imp id ?_⟩
  rintro ⟨g, cap, cur, e, hbg, r⟩
  exact ⟨g, cap, cur, e, by omega, r⟩
theorem NL.own {w : World} {base : Nat} {v : Value} {L : List Nat} (h : NL w base v L) {g : Nat} (hg : v.ownBlock = some g) : base ≤ g ∧ g < w.heap.size := World.ownsRow.lt h g hg
theorem Marks.grown {y : Nat} {w w' : World} {v : Value} {base : Nat} {L : List Nat} (hn : NL w base v L) (hg : w.grownBy w' v.ownBlock) : ∀ {ds : List Deferred}, Marks y w ds → Marks y w' ds := by
  intro ds
  induction ds with
  | nil => intro _; trivial
  | cons d ds ih =>
    rintro ⟨⟨r, h1, h2, h3, h4⟩, h5⟩
    refine ⟨⟨r, h1, h2, (hg.block r (Array.getElem?_eq_some_iff.1 h3).1 fun e => ?_).trans h3, h4⟩, ih h5⟩
    obtain ⟨cur, hc, _⟩ := hn.typ e.symm
    rw [h3] at hc; cases hc
theorem NL.keep {w w' : World} {base : Nat} {v : Value} {L : List Nat} (h : NL w base v L) (hb : ∀ g, v.ownBlock = some g → w'.heap[g]? = w.heap[g]?) : NL w' base v L := by
  refine ⟨h.1, h.2.imp id ?_⟩
  rintro ⟨g, cap, cur, rfl, hbg, hg, r⟩
  exact ⟨g, cap, cur, rfl, hbg, (hb g rfl).trans hg, r⟩
theorem Marks.own {y : Nat} {w : World} {v : Value} {base : Nat} {L : List Nat} (hn : NL w base v L) : ∀ {ds : List Deferred}, Marks y w ds → ∀ d, d ∈ ds → ∀ r, d.target = .collected r → v.ownBlock ≠ some r := by
  intro ds
  induction ds with
  | nil => intro _ d hd; cases hd
  | cons d ds ih =>
    rintro ⟨⟨r, h1, h2, h3, h4⟩, h5⟩ d' hd' r' hr' e
    rcases List.mem_cons.1 hd' with rfl | hd'
    · rw [h1] at hr'
      injection hr' with hr'
      subst hr'
      obtain ⟨cur, hc, _⟩ := hn.typ e
      rw [h3] at hc; cases hc
    · exact ih h5 d' hd' r' hr' e
theorem nxtO_at {O : Nat → List (Nat × Nat)} {a k : Nat} {x : Nat × Nat} (hx : (O a)[k]? = some x) (hb : ∀ j y, j < k → (O a)[j]? = some y → lookH (O y.1) (a : Nat) ≠ none) (hn : lookH (O x.1) (a : Nat) = none) : nxtO O a = some x.1 := by
  unfold nxtO
  have : (O a).find? (fun x => (lookH (O x.1) a).isNone) = some x := by
    rw [List.find?_eq_some_iff_getElem]
    obtain ⟨hk, hxe⟩ := List.getElem?_eq_some_iff.1 hx
    refine ⟨by rw [hn]; rfl, k, hk, hxe, fun j hj => ?_⟩
    have := hb j _ hj (List.getElem?_eq_getElem (by omega))
    cases h : lookH (O ((O a)[j]).1) (a : Nat) with
    | none => exact absurd h this
    | some z => simp
  rw [this]; rfl
theorem nxtO_end {O : Nat → List (Nat × Nat)} {a : Nat} (hb : ∀ j y, j < (O a).length → (O a)[j]? = some y → lookH (O y.1) (a : Nat) ≠ none) : nxtO O a = none := by
  unfold nxtO
  rw [Option.map_eq_none_iff, List.find?_eq_none]
  intro y hy
  obtain ⟨j, hj, e⟩ := List.getElem_of_mem hy
  have := hb j y hj (by rw [List.getElem?_eq_getElem hj, e])
  cases h : lookH (O y.1) (a : Nat) with
  | none => exact absurd h this
  | some z => simp
theorem gH_take {H : List Nat} {k : Nat} (hk : k < H.length) : H.take (k + 1) = H.take k ++ [gH H k] := by
  rw [List.take_add_one, gH_at hk]; rfl
set_option maxRecDepth 100000 in
set_option maxHeartbeats 4000000 in
theorem Hull_is (t : Nat) (D : SD) (N : Nat) (X Y : Nat → Int) (O : Nat → List (Nat × Nat)) (n : Int) (H : List Nat) (hH : HC N O H) (hn : n ≠ 0) (w : World) (h : SM w t D N X Y O n) :
    Calls Try.prog 13 #[ptr t 0] w fun e w' => ∃ v, e = .returned v ∧ NL w' w.heap.size v H ∧ Below w.heap.size w w' := by
  have HS := Lib.hid h
  have HH := Lib.hid hH
  have hpos := hH.pos
  have hlen := hH.len
  obtain ⟨c0, c1, c2⟩ := h.c
  have hsm := h.small
  have hzt := h.blk.lt
  clear h hH
  refine (callsIn_wide (n := 3)).1 ?_
  refine callsIn_of_wp_marks Try.func13 rfl trivial ?_ rfl
  simp only [Try.ntmps13, List.size_toArray, List.length_cons, List.length_nil, Nat.reduceAdd, Nat.reduceSub, Array.replicate_succ, Array.replicate_zero, List.push_toArray, List.append_toArray, List.nil_append, List.cons_append]
  have hn0 : (n == 0) = false := by simpa using hn
  gi_wp2_with fail
  refine wpIn_scope ?_
  gi_wp2_with fail
  refine wpIn_label ?_
  gi_wp2_with fail
  refine nameIn ?_
  intro V hV
  obtain ⟨y0, ey0⟩ : ∃ y, w.heap.size = y := ⟨_, rfl⟩
  obtain ⟨y, ey⟩ : ∃ y, w.heap.size + 1 = y := ⟨_, rfl⟩
  have hy01 : y0 < y := by omega
  have hbV : Below w.heap.size w V := by rw [hV]; exact below_a2 _ _ _
  have K0 : Hid (Blk V y0 #[ptr t 0] 25) := by rw [hV, ← ey0]; exact Lib.hid ((Blk.new w _ _).alloc _)
  have K1 : Hid (Blk V y #[.int .i64 (gH H 0 : Nat)] 3) := by rw [hV, ← ey, HH.out.zero]; exact Lib.hid (Blk.new1 w _ _ _)
  have hVs : V.heap.size = y + 1 := by rw [hV]; simp; omega
  have BV := Lib.hid hbV
  obtain ⟨len, hl⟩ : ∃ l, H.length = l := ⟨_, rfl⟩
  have HLN := Lib.hid hl
  rw [hl] at hpos hlen
  rw [ey, ey0]
  have hz0 : w.heap.size = y0 := ey0
  clear hV hbV hl c0 c1 c2 ey
  refine wpIn_loop_ghost_k (fun gk act wr => ∃ (u5 u6 u7 u8 u9 u10 u11 u12 u13 u14 u15 u16 u17 u18 u19 u20 u21 u22 u23 u24 u25 u26 u27 u28 u29 u30 u31 u32 u33 u34 u35 u36 u37 u38 u39 u40 u41 u42 u43 u44 u45 u46 u47 u48 u49 : Value) (ds : List Deferred) (k : Nat) (ho : Option Addr) (hc a : Nat), (k ≤ len ∧ len - k ≤ gk ∧ (k = len → a = 0) ∧ (0 < k → k < len → a ≠ 0) ∧ Hid (a = gH H (k % len)) ∧ Hid (NL wr (y + 1) (.slice ho k hc) (H.take k)) ∧ Hid (Below w.heap.size w wr) ∧ Hid (Blk wr y0 #[ptr t 0] 25) ∧ Hid (Blk wr y #[.int .i64 (a : Nat)] 3) ∧ y + 1 ≤ wr.heap.size ∧ Hid (Marks y wr ds)) ∧ act = { tmps := #[ptr t 0, ptr y0 0, .slice none 0 0, .slice ho k hc, ptr y 0, u5, u6, u7, u8, u9, u10, u11, u12, u13, u14, u15, u16, u17, u18, u19, u20, u21, u22, u23, u24, u25, u26, u27, u28, u29, u30, u31, u32, u33, u34, u35, u36, u37, u38, u39, u40, u41, u42, u43, u44, u45, u46, u47, u48, u49], defers := ds }) len ⟨_, _, _, _, _, _, _, _, _, _, _, _, _, _, _, _, _, _, _, _, _, _, _, _, _, _, _, _, _, _, _, _, _, _, _, _, _, _, _, _, _, _, _, _, _, [], 0, none, 0, 0, ⟨Nat.zero_le _, Nat.le_refl _, fun _ => rfl, fun h => by omega, Lib.hid (by rw [Nat.zero_mod]; exact HH.out.zero.symm), Lib.hid NL.none, BV, K0, by rw [HH.out.zero] at K1; exact K1, by omega, Lib.hid trivial⟩, rfl⟩ ?_
  intro gk act wr hinv J K hJ hK
  obtain ⟨u5, u6, u7, u8, u9, u10, u11, u12, u13, u14, u15, u16, u17, u18, u19, u20, u21, u22, u23, u24, u25, u26, u27, u28, u29, u30, u31, u32, u33, u34, u35, u36, u37, u38, u39, u40, u41, u42, u43, u44, u45, u46, u47, u48, u49, ds, k, ho, hc, a, ⟨hk, hgk, ha0, han, HA, HNL, HB, HK0, HK1, hyw, HM⟩, rfl⟩ := hinv
  clear K0 K1 BV hVs
  have b0 := HK0.out.cell 0
  have b1 := HK1.out.cell 0
  simp only [List.getElem?_toArray, List.getElem?_cons_zero] at b0 b1
  obtain ⟨c0, c1, c2⟩ := (HS.out.of HB.out).c
  by_cases hlt : k < len
  · have haN : a < N := by rw [HA.out, Nat.mod_eq_of_lt hlt]; exact HH.out.lt k (by rw [HLN.out]; exact hlt)
    have hnx : nxtO O a = some (gH H ((k + 1) % len)) := by
      have := HH.out.nxt k (by rw [HLN.out]; exact hlt)
      rw [HLN.out] at this
      rw [HA.out, Nat.mod_eq_of_lt hlt]; exact this
    have HNX := Lib.hid hnx
    clear hnx
    have hzb := HB.out.size
    rcases Nat.eq_zero_or_pos k with hk0 | hk0
    · subst hk0
      have hq1 : (H.take 0).length < 100000 := by rw [List.length_take]; omega
      have hq2 : y + 1 ≤ (wr.alloc (.cells #[.int .i64 (a : Nat)] 3)).heap.size := by simp; omega
      gi_wp2_with (gi_at_builtin; go_loud (refine wpListIn_append_nl rfl _ _ rfl (y + 1) (.slice ho 0 hc) (H.take 0) a wr.heap.size rfl rfl (Blk.new wr _ _) (HNL.out.of (below_a1 _ _)) hq1 hq2 ?_))
      intro ho2 m2 hc2 V1 hm2 nl2 gr2
      have hva : (wr.alloc (.cells #[.int .i64 (a : Nat)] 3)).heap.size = wr.heap.size + 1 := by simp
      have hoy : ∀ g, (Value.slice ho 0 hc).ownBlock = some g → y + 1 ≤ g := fun g hg => (HNL.out.own hg).1
      have hV1 : ∀ g, g < wr.heap.size → (Value.slice ho 0 hc).ownBlock ≠ some g → V1.heap[g]? = wr.heap[g]? := fun g h1 h2 => (gr2.block g (by omega) (fun e => h2 e.symm)).trans ((below_a1 wr _).block g h1)
      have hss : wr.heap.size + 1 ≤ V1.heap.size := by have := gr2.size; omega
      have B1 : Below w.heap.size w V1 := HB.out.trans ⟨gr2.os, gr2.tape, gr2.output, by omega, fun g hg => hV1 g (by omega) (fun e => by have := hoy g e; omega)⟩
      have k0 : Blk V1 y0 #[ptr t 0] 25 := (hV1 y0 (by omega) (fun e => by have := hoy _ e; omega)).trans HK0.out
      have k1 : Blk V1 y #[.int .i64 (a : Nat)] 3 := (hV1 y (by omega) (fun e => by have := hoy _ e; omega)).trans HK1.out
      have hM1 : Marks y V1 ds := ((HM.out.keep fun r _ h2 => (below_a1 wr (.cells #[.int .i64 (a : Nat)] 3)).block r h2).grown (HNL.out.of (below_a1 wr _)) gr2)
      have hm3 : m2 = 0 + 1 := by first | (rw [hm2, List.length_take]; omega) | (have := HLN.out; omega)
      have nl3 : NL V1 (y + 1) (.slice ho2 (0 + 1) hc2) (H.take (0 + 1)) := by
        rw [gH_take (by rw [HLN.out]; exact hlt), ← hm3]
        have e : gH H 0 = a := by rw [HA.out, Nat.mod_eq_of_lt hlt]
        rw [e]; exact nl2
      subst hm3
      have BB := Lib.hid B1
      have K0 := Lib.hid k0
      have K1 := Lib.hid k1
      have HM1 := Lib.hid hM1
      have NL3 := Lib.hid nl3
      have hy1 : y + 1 ≤ V1.heap.size := by omega
      have d0 := k0.cell 0
      have d1 := k1.cell 0
      simp only [List.getElem?_toArray, List.getElem?_cons_zero] at d0 d1
      clear hva hoy hV1 hss B1 k0 k1 hM1 hm2 nl2 nl3 gr2 HNL HK0 HK1 HB HM b0 b1 c0 c1 c2 hq1 hq2
      gi_wp2_with fail
      refine ⟨trivial, callsIn_wide.2 ?_⟩
      refine (Around_is t a V1).mono ?_
      rintro e V2 ⟨rfl, kcs, kca, hb2⟩
      obtain ⟨cs, ecs⟩ : ∃ b, V1.heap.size = b := ⟨_, rfl⟩
      obtain ⟨ca, eca⟩ : ∃ b, V1.heap.size + 1 = b := ⟨_, rfl⟩
      have o3 : cs < ca := by omega
      have o4 : ca < V2.heap.size := by have := kca.lt; omega
      have o5 : y < cs := by omega
      have SM2 := Lib.hid (HS.out.of (BB.out.trans (hb2.mono BB.out.size)))
      have BB2 := Lib.hid (BB.out.trans (hb2.mono BB.out.size))
      have KS2 := Lib.hid (K0.out.of hb2)
      have KA2 := Lib.hid (K1.out.of hb2)
      have NL2 := Lib.hid (NL3.out.of hb2)
      have HM2 : Hid (Marks y V2 ds) := Lib.hid (HM1.out.keep fun r _ h2 => hb2.block r h2)
      have hy0w : y0 < V2.heap.size := by omega
      rw [eca] at kca ⊢
      rw [ecs] at kcs ⊢
      have KC := Lib.hid (And.intro kcs kca)
      clear kcs kca hb2 BB K0 K1 NL3 HM1 d0 d1 ecs eca
      gi_wp2_with fail
      obtain ⟨z, hz⟩ : ∃ z, gH H ((0 + 1) % len) = z := ⟨_, rfl⟩
      have HZ := Lib.hid hz
      rw [hz] at HNX
      obtain ⟨lr, hlr⟩ : ∃ l, (O a).length = l := ⟨_, rfl⟩
      have HLR := Lib.hid hlr
      have hrow : rowO N O (a : Int) = O a := by unfold rowO; rw [if_pos (by omega)]; rfl
      have hT := Around1_tells cs ca t D N X Y O n a (O a) hrow (V2.heap.size + 2)
      rw [hlr] at hT
      clear hlr hrow hz
      refine wpIn_rangeX (m := 1) (gf := 67) (lb := #[ptr cs 0, ptr ca 0]) (N := lr) (encs := arE (O a)) (Kp := fun W => Blk W cs #[ptr t 0] 25 ∧ Blk W ca #[.int .i64 (a : Nat)] 3 ∧ SM W t D N X Y O n) rfl (fun args w => by go_simp) hT (fun _ => rfl)
        (fun G j W => (∀ g, ¬ G g) ∧ Below V2.heap.size V2 W ∧ ∀ i x, i < j → (O a)[i]? = some x → lookH (O x.1) (a : Nat) ≠ none)
        (fun c j W => c = .exit 1 ∧ Fr V2 W (fun b => b = y) ∧ Blk W y #[.int .i64 (z : Nat)] 3) ?hg ?stable ?xstable ?keeps ?start ?round ?done ?stop
      case hg => rintro G j W ⟨j1, _⟩ g hg; exact absurd hg (j1 g)
      case stable => rintro G j W W' ⟨j1, j2, j3⟩ ⟨hbl, _⟩; exact ⟨j1, j2.trans hbl, j3⟩
      case xstable =>
        rintro c j W W' ⟨j1, j2, j3⟩ hbl
        exact ⟨j1, j2.trans (S' := fun b => V2.heap.size ≤ b) ⟨hbl.os, hbl.tape, hbl.output, hbl.size, fun k _ hk => hbl.block k (by omega)⟩ (fun _ h => .inr h), j3.below hbl (by omega)⟩
      case keeps =>
        rintro G j W ⟨j1, j2, j3⟩
        exact ⟨KC.out.1.of j2, KC.out.2.of j2, SM2.out.of j2⟩
      case start => exact ⟨fun g h => h, Below.refl _ _, fun i x hi => by omega⟩
      case round =>
        rintro l2 D2 j G W2 hj ⟨j1, j2, j3⟩ g1 g2 g3 g4
        obtain ⟨x, hx⟩ : ∃ x, (O a)[j]? = some x := ⟨_, List.getElem?_eq_getElem (show j < (O a).length by rw [HLR.out]; exact hj)⟩
        have hE : arE (O a) j = #[.int .i64 x.1, .int .i64 x.2] := by unfold arE; rw [List.getD_eq_getElem?_getD, hx]; rfl
        rw [hE]
        obtain ⟨xb, xc⟩ := x
        have HX := Lib.hid hx
        have J1 := Lib.hid j1
        have J2 := Lib.hid j2
        have J3 := Lib.hid j3
        clear j1 j2 j3 hx hE hT
        gi_wp2_with fail
        refine ⟨⟨Fix2.of (OutL.refl [] _) g3 g4 (by simp) (by simp), AboveX.refl _ _ _⟩, ?_⟩
        intro W3 hW3
        have hs3 := hW3.size
        have B3 := Lib.hid (J2.out.trans (hW3.below (B := V2.heap.size) (by omega) (by simp; omega)))
        have q0 := (KS2.out.of B3.out).cell 0
        have q1 := (KA2.out.of B3.out).cell 0
        simp only [List.getElem?_toArray, List.getElem?_cons_zero] at q0 q1
        gi_wp2_with fail
        refine ⟨trivial, CallsIn.inRound l2 (callsIn_wide.2 ?_)⟩
        have hxd := (HS.out.dom a haN _ (List.mem_iff_getElem?.2 ⟨j, HX.out⟩)).1
        have hlo : leftO N O (xb : Int) (a : Int) = lookH (O xb) (a : Nat) := by unfold leftO; rw [if_pos (by simp only [] at hxd; omega)]; rfl
        obtain ⟨R, hR⟩ : ∃ R, lookH (O xb) (a : Nat) = R := ⟨_, rfl⟩
        have HR := Lib.hid hR
        refine (Left_is t D N X Y O n xb a W3 (SM2.out.of B3.out) R (hlo.trans hR)).mono ?_
        rintro e W4 ⟨rfl, hb4⟩
        have hs4 := hb4.size
        have B4 := Lib.hid (B3.out.trans (hb4.mono B3.out.size))
        have X34 := Lib.hid hb4
        have k1 := KA2.out.of B4.out
        have r1 := k1.cell 0
        have f1 := k1.free 0
        have l1 := k1.lt
        simp only [List.getElem?_toArray, List.getElem?_cons_zero] at r1
        have K1 := Lib.hid k1
        have hsz3 : V2.heap.size ≤ W3.heap.size := B3.out.size
        clear hxd hlo hR q0 q1 k1 hb4 B3
        cases R with
        | some c =>
          have GG : Hid ((Fix2 l2 D2 W3 W4 ∧ ∃ G' : Nat → Prop, (∀ g, G' g → G g ∨ W3.heap.size ≤ g) ∧ (∀ g, ¬ G' g) ∧ Below V2.heap.size V2 W4 ∧ ∀ i x, i < j + 1 → (O a)[i]? = some x → lookH (O x.1) (a : Nat) ≠ none) ∧ AboveX (V2.heap.size + 2) G W3 W4) := by
            refine Lib.hid ⟨⟨⟨X34.out.block l2 (by omega), X34.out.block D2 (by omega)⟩, fun _ => False, fun g h => h.elim, fun g h => h, B4.out, fun i x hi hx => ?_⟩, ⟨hs4, fun k _ hk _ => X34.out.block k hk⟩⟩
            rcases Nat.lt_or_ge i j with h | h
            · exact J3.out i x h hx
            · have : i = j := by omega
              subst this
              rw [HX.out] at hx
              injection hx with hx
              subst hx
              intro e
              have := HR.out
              rw [e] at this; cases this
          clear r1 f1 l1 hs4
          gi_wp2
          exact GG.out
        | none =>
          have hzx : z = xb := by
            have := nxtO_at HX.out J3.out HR.out
            rw [HNX.out] at this
            injection this
          have GG : Hid ((Fix2 l2 D2 W3 (W4.setCell ⟨y, 0, none⟩ (.int .i64 (xb : Nat))) ∧ Fr V2 (W4.setCell ⟨y, 0, none⟩ (.int .i64 (xb : Nat))) (fun b => b = y) ∧ Blk (W4.setCell ⟨y, 0, none⟩ (.int .i64 (xb : Nat))) y #[.int .i64 (z : Nat)] 3) ∧ AboveX (V2.heap.size + 2) G W3 (W4.setCell ⟨y, 0, none⟩ (.int .i64 (xb : Nat)))) := by
            have hst : ∀ g, g ≠ y → (W4.setCell ⟨y, 0, none⟩ (.int .i64 (xb : Nat))).heap[g]? = W4.heap[g]? := fun g h => Below.heap_setCell W4 ⟨y, 0, none⟩ (.int .i64 (xb : Nat)) g h
            have hsf : (W4.setCell ⟨y, 0, none⟩ (.int .i64 (xb : Nat))).heap.size = W4.heap.size := by simp [World.setCell]
            refine Lib.hid ⟨⟨⟨(hst l2 (by omega)).trans (X34.out.block l2 (by omega)), (hst D2 (by omega)).trans (X34.out.block D2 (by omega))⟩, ⟨B4.out.os, B4.out.tape, B4.out.output, by rw [hsf]; exact B4.out.size, fun k hk hn => (hst k hn).trans (B4.out.block k hk)⟩, ?_⟩, ⟨by rw [hsf]; exact hs4, fun k h1 hk _ => (hst k (by omega)).trans (X34.out.block k hk)⟩⟩
            rw [hzx]; exact K1.out.put 0 (.int .i64 (xb : Nat))
          clear hs4 hzx
          gi_wp2
          exact ⟨⟨GG.out.1.1, rfl, GG.out.1.2⟩, GG.out.2⟩
      case done =>
        rintro Dd G V5 g1 ⟨j1, j2, j3⟩ hD
        have := nxtO_end (a := a) (O := O) (fun i y hi => j3 i y (by rw [← HLR.out]; exact hi))
        rw [HNX.out] at this
        cases this
      case stop =>
        rintro Dd c k' V5 g1 ⟨rfl, j2, j3⟩ hD
        have hst : Hid (0 + 1 ≤ len ∧ (0 + 1 = len → z = 0) ∧ (0 < 0 + 1 → 0 + 1 < len → z ≠ 0) ∧ z = gH H ((0 + 1) % len)) := by
          refine Lib.hid ⟨hlt, fun h => ?_, fun _ h => ?_, HZ.out.symm⟩
          · rw [← HZ.out, h, Nat.mod_self]; exact HH.out.zero
          · rw [← HZ.out, Nat.mod_eq_of_lt h]; exact HH.out.nz _ (by omega) (by rw [HLN.out]; exact h)
        have F1 := Lib.hid (BB2.out.trans (j2.below (B := w.heap.size) BB2.out.size (fun k h => by omega)))
        have F2 := Lib.hid (j2.blk KS2.out (by omega))
        have F3 := Lib.hid j3
        have F4 : Hid (NL V5 (y + 1) (.slice ho2 (0 + 1) hc2) (H.take (0 + 1))) := Lib.hid (NL2.out.keep fun g hg => j2.block g (NL2.out.own hg).2 (by have := (NL2.out.own hg).1; omega))
        have F5 : Hid (Marks y V5 ({ target := .collected Dd, args := #[] } :: ds)) := Lib.hid ⟨⟨Dd, rfl, by omega, hD, fun d hd r hr => by have := HM2.out.lt d hd r hr; omega⟩, HM2.out.keep fun r h1 h2 => j2.block r h2 (by omega)⟩
        have hs5 := j2.size
        have hy5 : y + 1 ≤ V5.heap.size := by omega
        have hms : len - (0 + 1) < gk := by omega
        clear j2 j3 hD hT BB2 KS2 KA2 NL2 HM2 KC
        gi_wp2_with fail
        exact ⟨len - (0 + 1), hms, hJ _ _ _ ⟨_, _, _, _, _, _, _, _, _, _, _, _, _, _, _, _, _, _, _, _, _, _, _, _, _, _, _, _, _, _, _, _, _, _, _, _, _, _, _, _, _, _, _, _, _, _ , 0 + 1, ho2, hc2, z, ⟨hst.out.1, Nat.le_refl _, hst.out.2.1, hst.out.2.2.1, Lib.hid hst.out.2.2.2, F4, F1, F2, F3, hy5, F5⟩, rfl⟩⟩
    · have hk1 : ¬ k = 0 := by omega
      have hk2 : ¬ a = 0 := han hk0 hlt
      have hk4 : ((k : Int) == 0) = false := by simp; omega
      have hk5 : ((a : Int) != 0) = true := by simp; omega
      have hk3 : (k : Int) < (N : Int) := by omega
      clear hk0
      have hq1 : (H.take k).length < 100000 := by rw [List.length_take]; omega
      have hq2 : y + 1 ≤ (wr.alloc (.cells #[.int .i64 (a : Nat)] 3)).heap.size := by simp; omega
      gi_wp2_with (gi_at_builtin; go_loud (refine wpListIn_append_nl rfl _ _ rfl (y + 1) (.slice ho k hc) (H.take k) a wr.heap.size rfl rfl (Blk.new wr _ _) (HNL.out.of (below_a1 _ _)) hq1 hq2 ?_))
      intro ho2 m2 hc2 V1 hm2 nl2 gr2
      have hva : (wr.alloc (.cells #[.int .i64 (a : Nat)] 3)).heap.size = wr.heap.size + 1 := by simp
      have hoy : ∀ g, (Value.slice ho k hc).ownBlock = some g → y + 1 ≤ g := fun g hg => (HNL.out.own hg).1
      have hV1 : ∀ g, g < wr.heap.size → (Value.slice ho k hc).ownBlock ≠ some g → V1.heap[g]? = wr.heap[g]? := fun g h1 h2 => (gr2.block g (by omega) (fun e => h2 e.symm)).trans ((below_a1 wr _).block g h1)
      have hss : wr.heap.size + 1 ≤ V1.heap.size := by have := gr2.size; omega
      have B1 : Below w.heap.size w V1 := HB.out.trans ⟨gr2.os, gr2.tape, gr2.output, by omega, fun g hg => hV1 g (by omega) (fun e => by have := hoy g e; omega)⟩
      have k0 : Blk V1 y0 #[ptr t 0] 25 := (hV1 y0 (by omega) (fun e => by have := hoy _ e; omega)).trans HK0.out
      have k1 : Blk V1 y #[.int .i64 (a : Nat)] 3 := (hV1 y (by omega) (fun e => by have := hoy _ e; omega)).trans HK1.out
      have hM1 : Marks y V1 ds := ((HM.out.keep fun r _ h2 => (below_a1 wr (.cells #[.int .i64 (a : Nat)] 3)).block r h2).grown (HNL.out.of (below_a1 wr _)) gr2)
      have hm3 : m2 = k + 1 := by first | (rw [hm2, List.length_take]; omega) | (have := HLN.out; omega)
      have nl3 : NL V1 (y + 1) (.slice ho2 (k + 1) hc2) (H.take (k + 1)) := by
        rw [gH_take (by rw [HLN.out]; exact hlt), ← hm3]
        have e : gH H k = a := by rw [HA.out, Nat.mod_eq_of_lt hlt]
        rw [e]; exact nl2
      subst hm3
      have BB := Lib.hid B1
      have K0 := Lib.hid k0
      have K1 := Lib.hid k1
      have HM1 := Lib.hid hM1
      have NL3 := Lib.hid nl3
      have hy1 : y + 1 ≤ V1.heap.size := by omega
      have d0 := k0.cell 0
      have d1 := k1.cell 0
      simp only [List.getElem?_toArray, List.getElem?_cons_zero] at d0 d1
      clear hva hoy hV1 hss B1 k0 k1 hM1 hm2 nl2 nl3 gr2 HNL HK0 HK1 HB HM b0 b1 c0 c1 c2 hq1 hq2
      gi_wp2_with fail
      refine ⟨trivial, callsIn_wide.2 ?_⟩
      refine (Around_is t a V1).mono ?_
      rintro e V2 ⟨rfl, kcs, kca, hb2⟩
      obtain ⟨cs, ecs⟩ : ∃ b, V1.heap.size = b := ⟨_, rfl⟩
      obtain ⟨ca, eca⟩ : ∃ b, V1.heap.size + 1 = b := ⟨_, rfl⟩
      have o3 : cs < ca := by omega
      have o4 : ca < V2.heap.size := by have := kca.lt; omega
      have o5 : y < cs := by omega
      have SM2 := Lib.hid (HS.out.of (BB.out.trans (hb2.mono BB.out.size)))
      have BB2 := Lib.hid (BB.out.trans (hb2.mono BB.out.size))
      have KS2 := Lib.hid (K0.out.of hb2)
      have KA2 := Lib.hid (K1.out.of hb2)
      have NL2 := Lib.hid (NL3.out.of hb2)
      have HM2 : Hid (Marks y V2 ds) := Lib.hid (HM1.out.keep fun r _ h2 => hb2.block r h2)
      have hy0w : y0 < V2.heap.size := by omega
      rw [eca] at kca ⊢
      rw [ecs] at kcs ⊢
      have KC := Lib.hid (And.intro kcs kca)
      clear kcs kca hb2 BB K0 K1 NL3 HM1 d0 d1 ecs eca
      gi_wp2_with fail
      obtain ⟨z, hz⟩ : ∃ z, gH H ((k + 1) % len) = z := ⟨_, rfl⟩
      have HZ := Lib.hid hz
      rw [hz] at HNX
      obtain ⟨lr, hlr⟩ : ∃ l, (O a).length = l := ⟨_, rfl⟩
      have HLR := Lib.hid hlr
      have hrow : rowO N O (a : Int) = O a := by unfold rowO; rw [if_pos (by omega)]; rfl
      have hT := Around1_tells cs ca t D N X Y O n a (O a) hrow (V2.heap.size + 2)
      rw [hlr] at hT
      clear hlr hrow hz
      refine wpIn_rangeX (m := 1) (gf := 67) (lb := #[ptr cs 0, ptr ca 0]) (N := lr) (encs := arE (O a)) (Kp := fun W => Blk W cs #[ptr t 0] 25 ∧ Blk W ca #[.int .i64 (a : Nat)] 3 ∧ SM W t D N X Y O n) rfl (fun args w => by go_simp) hT (fun _ => rfl)
        (fun G j W => (∀ g, ¬ G g) ∧ Below V2.heap.size V2 W ∧ ∀ i x, i < j → (O a)[i]? = some x → lookH (O x.1) (a : Nat) ≠ none)
        (fun c j W => c = .exit 1 ∧ Fr V2 W (fun b => b = y) ∧ Blk W y #[.int .i64 (z : Nat)] 3) ?hg ?stable ?xstable ?keeps ?start ?round ?done ?stop
      case hg => rintro G j W ⟨j1, _⟩ g hg; exact absurd hg (j1 g)
      case stable => rintro G j W W' ⟨j1, j2, j3⟩ ⟨hbl, _⟩; exact ⟨j1, j2.trans hbl, j3⟩
      case xstable =>
        rintro c j W W' ⟨j1, j2, j3⟩ hbl
        exact ⟨j1, j2.trans (S' := fun b => V2.heap.size ≤ b) ⟨hbl.os, hbl.tape, hbl.output, hbl.size, fun k _ hk => hbl.block k (by omega)⟩ (fun _ h => .inr h), j3.below hbl (by omega)⟩
      case keeps =>
        rintro G j W ⟨j1, j2, j3⟩
        exact ⟨KC.out.1.of j2, KC.out.2.of j2, SM2.out.of j2⟩
      case start => exact ⟨fun g h => h, Below.refl _ _, fun i x hi => by omega⟩
      case round =>
        rintro l2 D2 j G W2 hj ⟨j1, j2, j3⟩ g1 g2 g3 g4
        obtain ⟨x, hx⟩ : ∃ x, (O a)[j]? = some x := ⟨_, List.getElem?_eq_getElem (show j < (O a).length by rw [HLR.out]; exact hj)⟩
        have hE : arE (O a) j = #[.int .i64 x.1, .int .i64 x.2] := by unfold arE; rw [List.getD_eq_getElem?_getD, hx]; rfl
        rw [hE]
        obtain ⟨xb, xc⟩ := x
        have HX := Lib.hid hx
        have J1 := Lib.hid j1
        have J2 := Lib.hid j2
        have J3 := Lib.hid j3
        clear j1 j2 j3 hx hE hT
        gi_wp2_with fail
        refine ⟨⟨Fix2.of (OutL.refl [] _) g3 g4 (by simp) (by simp), AboveX.refl _ _ _⟩, ?_⟩
        intro W3 hW3
        have hs3 := hW3.size
        have B3 := Lib.hid (J2.out.trans (hW3.below (B := V2.heap.size) (by omega) (by simp; omega)))
        have q0 := (KS2.out.of B3.out).cell 0
        have q1 := (KA2.out.of B3.out).cell 0
        simp only [List.getElem?_toArray, List.getElem?_cons_zero] at q0 q1
        gi_wp2_with fail
        refine ⟨trivial, CallsIn.inRound l2 (callsIn_wide.2 ?_)⟩
        have hxd := (HS.out.dom a haN _ (List.mem_iff_getElem?.2 ⟨j, HX.out⟩)).1
        have hlo : leftO N O (xb : Int) (a : Int) = lookH (O xb) (a : Nat) := by unfold leftO; rw [if_pos (by simp only [] at hxd; omega)]; rfl
        obtain ⟨R, hR⟩ : ∃ R, lookH (O xb) (a : Nat) = R := ⟨_, rfl⟩
        have HR := Lib.hid hR
        refine (Left_is t D N X Y O n xb a W3 (SM2.out.of B3.out) R (hlo.trans hR)).mono ?_
        rintro e W4 ⟨rfl, hb4⟩
        have hs4 := hb4.size
        have B4 := Lib.hid (B3.out.trans (hb4.mono B3.out.size))
        have X34 := Lib.hid hb4
        have k1 := KA2.out.of B4.out
        have r1 := k1.cell 0
        have f1 := k1.free 0
        have l1 := k1.lt
        simp only [List.getElem?_toArray, List.getElem?_cons_zero] at r1
        have K1 := Lib.hid k1
        have hsz3 : V2.heap.size ≤ W3.heap.size := B3.out.size
        clear hxd hlo hR q0 q1 k1 hb4 B3
        cases R with
        | some c =>
          have GG : Hid ((Fix2 l2 D2 W3 W4 ∧ ∃ G' : Nat → Prop, (∀ g, G' g → G g ∨ W3.heap.size ≤ g) ∧ (∀ g, ¬ G' g) ∧ Below V2.heap.size V2 W4 ∧ ∀ i x, i < j + 1 → (O a)[i]? = some x → lookH (O x.1) (a : Nat) ≠ none) ∧ AboveX (V2.heap.size + 2) G W3 W4) := by
            refine Lib.hid ⟨⟨⟨X34.out.block l2 (by omega), X34.out.block D2 (by omega)⟩, fun _ => False, fun g h => h.elim, fun g h => h, B4.out, fun i x hi hx => ?_⟩, ⟨hs4, fun k _ hk _ => X34.out.block k hk⟩⟩
            rcases Nat.lt_or_ge i j with h | h
            · exact J3.out i x h hx
            · have : i = j := by omega
              subst this
              rw [HX.out] at hx
              injection hx with hx
              subst hx
              intro e
              have := HR.out
              rw [e] at this; cases this
          clear r1 f1 l1 hs4
          gi_wp2
          exact GG.out
        | none =>
          have hzx : z = xb := by
            have := nxtO_at HX.out J3.out HR.out
            rw [HNX.out] at this
            injection this
          have GG : Hid ((Fix2 l2 D2 W3 (W4.setCell ⟨y, 0, none⟩ (.int .i64 (xb : Nat))) ∧ Fr V2 (W4.setCell ⟨y, 0, none⟩ (.int .i64 (xb : Nat))) (fun b => b = y) ∧ Blk (W4.setCell ⟨y, 0, none⟩ (.int .i64 (xb : Nat))) y #[.int .i64 (z : Nat)] 3) ∧ AboveX (V2.heap.size + 2) G W3 (W4.setCell ⟨y, 0, none⟩ (.int .i64 (xb : Nat)))) := by
            have hst : ∀ g, g ≠ y → (W4.setCell ⟨y, 0, none⟩ (.int .i64 (xb : Nat))).heap[g]? = W4.heap[g]? := fun g h => Below.heap_setCell W4 ⟨y, 0, none⟩ (.int .i64 (xb : Nat)) g h
            have hsf : (W4.setCell ⟨y, 0, none⟩ (.int .i64 (xb : Nat))).heap.size = W4.heap.size := by simp [World.setCell]
            refine Lib.hid ⟨⟨⟨(hst l2 (by omega)).trans (X34.out.block l2 (by omega)), (hst D2 (by omega)).trans (X34.out.block D2 (by omega))⟩, ⟨B4.out.os, B4.out.tape, B4.out.output, by rw [hsf]; exact B4.out.size, fun k hk hn => (hst k hn).trans (B4.out.block k hk)⟩, ?_⟩, ⟨by rw [hsf]; exact hs4, fun k h1 hk _ => (hst k (by omega)).trans (X34.out.block k hk)⟩⟩
            rw [hzx]; exact K1.out.put 0 (.int .i64 (xb : Nat))
          clear hs4 hzx
          gi_wp2
          exact ⟨⟨GG.out.1.1, rfl, GG.out.1.2⟩, GG.out.2⟩
      case done =>
        rintro Dd G V5 g1 ⟨j1, j2, j3⟩ hD
        have := nxtO_end (a := a) (O := O) (fun i y hi => j3 i y (by rw [← HLR.out]; exact hi))
        rw [HNX.out] at this
        cases this
      case stop =>
        rintro Dd c k' V5 g1 ⟨rfl, j2, j3⟩ hD
        have hst : Hid (k + 1 ≤ len ∧ (k + 1 = len → z = 0) ∧ (0 < k + 1 → k + 1 < len → z ≠ 0) ∧ z = gH H ((k + 1) % len)) := by
          refine Lib.hid ⟨hlt, fun h => ?_, fun _ h => ?_, HZ.out.symm⟩
          · rw [← HZ.out, h, Nat.mod_self]; exact HH.out.zero
          · rw [← HZ.out, Nat.mod_eq_of_lt h]; exact HH.out.nz _ (by omega) (by rw [HLN.out]; exact h)
        have F1 := Lib.hid (BB2.out.trans (j2.below (B := w.heap.size) BB2.out.size (fun k h => by omega)))
        have F2 := Lib.hid (j2.blk KS2.out (by omega))
        have F3 := Lib.hid j3
        have F4 : Hid (NL V5 (y + 1) (.slice ho2 (k + 1) hc2) (H.take (k + 1))) := Lib.hid (NL2.out.keep fun g hg => j2.block g (NL2.out.own hg).2 (by have := (NL2.out.own hg).1; omega))
        have F5 : Hid (Marks y V5 ({ target := .collected Dd, args := #[] } :: ds)) := Lib.hid ⟨⟨Dd, rfl, by omega, hD, fun d hd r hr => by have := HM2.out.lt d hd r hr; omega⟩, HM2.out.keep fun r h1 h2 => j2.block r h2 (by omega)⟩
        have hs5 := j2.size
        have hy5 : y + 1 ≤ V5.heap.size := by omega
        have hms : len - (k + 1) < gk := by omega
        clear j2 j3 hD hT BB2 KS2 KA2 NL2 HM2 KC
        gi_wp2_with fail
        exact ⟨len - (k + 1), hms, hJ _ _ _ ⟨_, _, _, _, _, _, _, _, _, _, _, _, _, _, _, _, _, _, _, _, _, _, _, _, _, _, _, _, _, _, _, _, _, _, _, _, _, _, _, _, _, _, _, _, _, _ , k + 1, ho2, hc2, z, ⟨hst.out.1, Nat.le_refl _, hst.out.2.1, hst.out.2.2.1, Lib.hid hst.out.2.2.2, F4, F1, F2, F3, hy5, F5⟩, rfl⟩⟩
  · have hke : k = len := by omega
    have haz := ha0 hke
    subst haz
    have hk1 : ¬ k = 0 := by omega
    have hk4 : ((k : Int) == 0) = false := by simp; omega
    have HF := Lib.hid (show NL wr (y + 1) (.slice ho k hc) H by
      have := HNL.out
      rw [List.take_of_length_le (by rw [HLN.out]; omega)] at this
      exact this)
    have hbs := HB.out.size
    clear HNL HK0 HK1 hke HA
    gi_wp2
    refine leaves_marks (B := w.heap.size) (by omega) (fun g => (Value.slice ho k hc).ownBlock = some g) ds wr (by omega) HM.out (fun d hd r hr => Marks.own HF.out HM.out d hd r hr) fun w' hb => ?_
    simp only [LeavesInM, LeavesIn]
    refine ⟨.slice ho k hc, by simp [results, Try.results13, go_sem], _, rfl, ?_, HB.out.trans hb.1⟩
    exact (HF.out.keep fun g hg => hb.2 g hg (HF.out.own hg).2).low2 (by omega)
end Go.Proofs.Ytdlpfiiakmhnlaa

namespace Go.Proofs.Ytdlpfiiakmhnlaa
open Go.RowKit

/-- two lists in order -/
def mrg : List Nat → List Nat → List Nat
  | [], b => b
  | x :: a, [] => x :: a
  | x :: a, y :: b => if y < x then y :: mrg (x :: a) b else x :: mrg a (y :: b)
termination_by a b => a.length + b.length
theorem mrg_nil (b : List Nat) : mrg [] b = b := by rw [mrg]
theorem mrg_nil2 (a : List Nat) : mrg a [] = a := by cases a <;> rw [mrg]
theorem mrg_lt {x y : Nat} {a b : List Nat} (h : y < x) : mrg (x :: a) (y :: b) = y :: mrg (x :: a) b := by rw [mrg, if_pos h]
theorem mrg_ge {x y : Nat} {a b : List Nat} (h : ¬ y < x) : mrg (x :: a) (y :: b) = x :: mrg a (y :: b) := by rw [mrg, if_neg h]
theorem mrg_len : ∀ (n : Nat) (a b : List Nat), a.length + b.length ≤ n → (mrg a b).length = a.length + b.length := by
  intro n
  induction n with
  | zero =>
    intro a b h
    obtain rfl : a = [] := List.eq_nil_of_length_eq_zero (by omega)
    rw [mrg_nil]; simp
  | succ n ih =>
    intro a b h
    cases a with
    | nil => rw [mrg_nil]; simp
    | cons x a =>
      cases b with
      | nil => rw [mrg_nil2]; simp
      | cons y b =>
        simp only [List.length_cons] at h
        by_cases hl : y < x
        · rw [mrg_lt hl, List.length_cons, ih _ _ (by simp only [List.length_cons]; omega)]; simp only [List.length_cons]; omega
        · rw [mrg_ge hl, List.length_cons, ih _ _ (by simp only [List.length_cons]; omega)]; simp only [List.length_cons]; omega
theorem mrg_mem : ∀ (n : Nat) (a b : List Nat), a.length + b.length ≤ n → ∀ z, z ∈ mrg a b ↔ z ∈ a ∨ z ∈ b := by
  intro n
  induction n with
  | zero =>
    intro a b h z
    obtain rfl : a = [] := List.eq_nil_of_length_eq_zero (by omega)
    rw [mrg_nil]; simp
  | succ n ih =>
    intro a b h z
    cases a with
    | nil => rw [mrg_nil]; simp
    | cons x a =>
      cases b with
      | nil => rw [mrg_nil2]; simp
      | cons y b =>
        simp only [List.length_cons] at h
        by_cases hl : y < x
        · rw [mrg_lt hl, List.mem_cons, ih _ _ (by simp only [List.length_cons]; omega)]
          simp only [List.mem_cons]
          constructor
          · rintro (h | (h | h) | h)
            · exact .inr (.inl h)
            · exact .inl (.inl h)
            · exact .inl (.inr h)
            · exact .inr (.inr h)
          · rintro ((h | h) | (h | h))
            · exact .inr (.inl (.inl h))
            · exact .inr (.inl (.inr h))
            · exact .inl h
            · exact .inr (.inr h)
        · rw [mrg_ge hl, List.mem_cons, ih _ _ (by simp only [List.length_cons]; omega)]
          simp only [List.mem_cons]
          constructor
          · rintro (h | h | (h | h))
            · exact .inl (.inl h)
            · exact .inl (.inr h)
            · exact .inr (.inl h)
            · exact .inr (.inr h)
          · rintro ((h | h) | (h | h))
            · exact .inl h
            · exact .inr (.inl h)
            · exact .inr (.inr (.inl h))
            · exact .inr (.inr (.inr h))
def Asc (l : List Nat) : Prop := l.Pairwise (· ≤ ·)
theorem mrg_asc : ∀ (n : Nat) (a b : List Nat), a.length + b.length ≤ n → Asc a → Asc b → Asc (mrg a b) := by
  intro n
  induction n with
  | zero =>
    intro a b h ha hb
    obtain rfl : a = [] := List.eq_nil_of_length_eq_zero (by omega)
    rw [mrg_nil]; exact hb
  | succ n ih =>
    intro a b h ha hb
    cases a with
    | nil => rw [mrg_nil]; exact hb
    | cons x a =>
      cases b with
      | nil => rw [mrg_nil2]; exact ha
      | cons y b =>
        simp only [List.length_cons] at h
        have ca := List.pairwise_cons.1 ha
        have cb := List.pairwise_cons.1 hb
        by_cases hl : y < x
        · rw [mrg_lt hl]
          refine List.pairwise_cons.2 ⟨fun z hz => ?_, ih _ _ (by simp only [List.length_cons]; omega) ha cb.2⟩
          rcases (mrg_mem _ _ _ (Nat.le_refl _) z).1 hz with h1 | h1
          · rcases List.mem_cons.1 h1 with rfl | h1
            · omega
            · have := ca.1 z h1; omega
          · exact cb.1 z h1
        · rw [mrg_ge hl]
          refine List.pairwise_cons.2 ⟨fun z hz => ?_, ih _ _ (by simp only [List.length_cons]; omega) ca.2 hb⟩
          rcases (mrg_mem _ _ _ (Nat.le_refl _) z).1 hz with h1 | h1
          · exact ca.1 z h1
          · rcases List.mem_cons.1 h1 with rfl | h1
            · omega
            · have := cb.1 z h1; omega
/-- a slice of numbers, to be read -/
structure Ns (w : World) (ao : Option Addr) (cap : Nat) (L : List Nat) : Prop where
  ptr : 0 < L.length → ∃ g o, ao = some ⟨g, o, none⟩ ∧ g < w.heap.size ∧ ∀ j x, L[j]? = some x → w.cell? ⟨g, o + j, none⟩ = some (.int .i64 (x : Nat))
  capl : L.length ≤ cap
  capb : cap ≤ 9223372036854775807
theorem Ns.of {w w' : World} {ao : Option Addr} {cap : Nat} {L : List Nat} (h : Ns w ao cap L) (hb : Below w.heap.size w w') : Ns w' ao cap L := by
  refine ⟨fun h0 => ?_, h.capl, h.capb⟩
  obtain ⟨g, o, e, hg, hc⟩ := h.ptr h0
  exact ⟨g, o, e, Nat.lt_of_lt_of_le hg hb.size, fun j x hx => (hb.cell (p := ⟨g, o + j, none⟩) hg).trans (hc j x hx)⟩
theorem Ns.below {B : Nat} {w w' : World} {ao : Option Addr} {cap : Nat} {L : List Nat} (h : Ns w ao cap L) (hb : Below B w w') (hB : ∀ g o, ao = some ⟨g, o, none⟩ → 0 < L.length → g < B) : Ns w' ao cap L := by
  refine ⟨fun h0 => ?_, h.capl, h.capb⟩
  obtain ⟨g, o, e, hg, hc⟩ := h.ptr h0
  exact ⟨g, o, e, Nat.lt_of_lt_of_le hg hb.size, fun j x hx => (hb.cell (p := ⟨g, o + j, none⟩) (hB g o e h0)).trans (hc j x hx)⟩
theorem Ns.ofNL {w : World} {base : Nat} {v : Value} {L : List Nat} (h : NL w base v L) : ∃ ao cap, v = .slice ao L.length cap ∧ Ns w ao cap L := by
  obtain ⟨ao, cap, e, h1, h2, h3⟩ := h.val
  refine ⟨ao, cap, e, fun h0 => ?_, h1, h2⟩
  obtain ⟨g, rfl, _, hg, hc⟩ := h3 h0
  exact ⟨g, 0, rfl, hg, fun j x hx => by rw [Nat.zero_add]; exact hc j x hx⟩
theorem Ns.nil (w : World) : Ns w none 0 [] := ⟨fun h => absurd h (by simp), Nat.le_refl _, by omega⟩
abbrev cmpF : Value := .func (.func 66) #[] #[]
end Go.Proofs.Ytdlpfiiakmhnlaa

namespace Go.Proofs.Ytdlpfiiakmhnlaa
open Go.RowKit

def nI (L : List Nat) : List Value := L.map fun x => .int .i64 (x : Nat)
theorem nI_len (L : List Nat) : (nI L).length = L.length := by unfold nI; simp
theorem nI_one (L : List Nat) : ∀ u ∈ nI L, u.oneCell' = true := by
  intro u hu
  unfold nI at hu
  obtain ⟨x, _, rfl⟩ := List.mem_map.1 hu
  rfl
theorem Ns.src {w : World} {a : Addr} {cap : Nat} {L : List Nat} (h : Ns w (some a) cap L) (j : Nat) (u : Value) (hj : (nI L)[j]? = some u) : w.cell? (a.add j) = some u := by
  have hjl : j < L.length := by rw [← nI_len]; exact (List.getElem?_eq_some_iff.1 hj).1
  obtain ⟨g, o, e, _, hc⟩ := h.ptr (by omega)
  injection e with e
  subst e
  have e2 : (⟨g, o, none⟩ : Addr).add j = ⟨g, o + j, none⟩ := by unfold Addr.add; split <;> simp_all
  rw [e2]
  unfold nI at hj
  rw [List.getElem?_map, Option.map_eq_some_iff] at hj
  obtain ⟨x, hx, rfl⟩ := hj
  exact hc j x hx
set_option maxRecDepth 100000 in
set_option maxHeartbeats 1000000 in
theorem CloneI_is (ao : Option Addr) (cap : Nat) (L : List Nat) (w : World) (h : Ns w ao cap L) (hn : L.length ≤ 1000000) :
    Calls Try.prog 98 #[.slice ao L.length cap] w fun e w' => ∃ v, e = .returned v ∧ NL w' w.heap.size v L ∧ Below w.heap.size w w' := by
  have hcl := h.capl
  have hcb := h.capb
  obtain ⟨i0, hi, hz0, hz1, hz2⟩ := info_parts info_int
  have HP := Lib.hid h
  clear h
  cases ao with
  | none =>
    have heq : ∀ n w, Sem.run Try.prog (binOp BinOp.eql 29 (.slice none n cap) (.slice none 0 0)) w = .ok (.bool true) w := fun n w => by kernel_rfl
    have hn0 : L = [] := by
      rcases Nat.eq_zero_or_pos L.length with h0 | h0
      · exact List.eq_nil_of_length_eq_zero h0
      · obtain ⟨g, o, e, _⟩ := HP.out.ptr h0; cases e
    subst hn0
    go_enter Try.func98, Try.ntmps98
    go_wp2
    go_ret
    exact ⟨_, rfl, NL.none, Below.refl _ _⟩
  | some a =>
    have heq : ∀ w, Sem.run Try.prog (binOp BinOp.eql 29 (.slice (some a) L.length cap) (.slice none 0 0)) w = .ok (.bool false) w := fun w => by kernel_rfl
    go_enter Try.func98, Try.ntmps98
    go_wp2_with (at_builtin; refine wpList_append_lies _ rfl _ _ 29 rfl w.heap.size 3 i0 (.int .i64 0) 1 8 Try.underlying29 hi hz0 hz1 hz2 rfl (by decide) (.slice (some ⟨w.heap.size, 0, none⟩) 0 0) 0 [] rfl ⟨rfl, .inr ⟨w.heap.size, 0, #[], rfl, Nat.le_refl _, heap_alloc_new w _, Nat.le_refl _, by decide, rfl, rfl⟩⟩ a L.length cap (nI L) rfl (by rw [nI_len]; omega) (Ns.src (HP.out.of (below_a1 _ _))) (nI_one L) (by unfold maxLen; omega) (by omega) (by simp) ?_)
    intro v' w' own gr _
    have HO : Hid (NL w' w.heap.size v' L) := by
      refine Lib.hid ?_
      unfold NL
      exact own
    have hb : Below w.heap.size w w' := (below_a1 w _).trans ((Below.refl _ _).grown gr (by simp) (fun k hk => by cases hk; exact Nat.le_refl _))
    clear own gr
    go_wp2
    go_ret
    exact ⟨_, rfl, HO.out, hb⟩
end Go.Proofs.Ytdlpfiiakmhnlaa

namespace Go.Proofs.Ytdlpfiiakmhnlaa
open Go.RowKit
attribute [local go_sem] undef

theorem CmpI_is (x y r : Int) (hr : cmpI x y = r) (w : World) : Calls Try.prog 66 #[.int .i64 x, .int .i64 y] w fun e w' => e = .returned (.int .i64 r) ∧ Below w.heap.size w w' := hr ▸ Compare_any x y w
/-- numbers to be read, in a block below B -/
structure Nb (B : Nat) (w : World) (g o cap : Nat) (L : List Nat) : Prop where
  lt : g < w.heap.size
  lo : g < B
  cell : ∀ j x, L[j]? = some x → w.cell? ⟨g, o + j, none⟩ = some (.int .i64 (x : Nat))
  capl : L.length ≤ cap
  capb : cap ≤ 9223372036854775807
theorem Nb.of {B : Nat} {w w' : World} {g o cap : Nat} {L : List Nat} (h : Nb B w g o cap L) (hb : Below B w w') : Nb B w' g o cap L :=
  ⟨Nat.lt_of_lt_of_le h.lt hb.size, h.lo, fun j x hx => (hb.cell (p := ⟨g, o + j, none⟩) h.lo).trans (h.cell j x hx), h.capl, h.capb⟩
theorem Nb.tail {B : Nat} {w : World} {g o cap o' : Nat} {x : Nat} {L : List Nat} (h : Nb B w g o cap (x :: L)) (ho : o' = o + 1 ∨ L = []) : Nb B w g o' (cap - 1) L := by
  have hc := h.capl
  have hcb := h.capb
  simp only [List.length_cons] at hc
  refine ⟨h.lt, h.lo, fun j y hy => ?_, by omega, by omega⟩
  rcases ho with rfl | rfl
  · have := h.cell (j + 1) y (by simpa using hy)
    rw [show o + 1 + j = o + (j + 1) by omega]; exact this
  · simp at hy
theorem Nb.src {B : Nat} {w : World} {g o cap : Nat} {L : List Nat} (h : Nb B w g o cap L) (j : Nat) (u : Value) (hj : (nI L)[j]? = some u) : w.cell? ((⟨g, o, none⟩ : Addr).add j) = some u := by
  have e2 : (⟨g, o, none⟩ : Addr).add j = ⟨g, o + j, none⟩ := by unfold Addr.add; split <;> simp_all
  rw [e2]
  unfold nI at hj
  rw [List.getElem?_map, Option.map_eq_some_iff] at hj
  obtain ⟨x, hx, rfl⟩ := hj
  exact h.cell j x hx
theorem make_ints (k : Nat) (hk : k ≤ 1000000) : ∃ MC : Array Value, (∀ w, Sem.run Try.prog (Instr.makeSlice 29 (.int .i64 0) (.int .i64 (k : Nat))) w = .ok (.slice (some ⟨w.heap.size, 0, none⟩) 0 k) (w.alloc (.cells MC 3))) ∧ MC.size = k := by
  obtain ⟨i0, hi, hz0, hz1, hz2⟩ := info_parts info_int
  refine ⟨madeCells (Value.int .i64 0).cells (k * 1), fun w => ?_, ?_⟩
  · have := run_makeSlice (P := Try.prog) w 29 3 i0 (.int .i64 0) Try.underlying29 hi hz0 .i64 .i64 0 (k : Nat) (by omega) (by omega) (by rw [hz1]; simp; omega) (by rw [hz2]; omega) (by omega)
    rw [hz1] at this
    simpa using this
  · unfold madeCells
    simp [Value.cells]
set_option maxRecDepth 100000 in
set_option maxHeartbeats 8000000 in
theorem Merge_is (ga oa gb ob ac bc : Nat) (la lb : List Nat) (w : World) (ha : Nb w.heap.size w ga oa ac la) (hb_ : Nb w.heap.size w gb ob bc lb) (hla : la.length ≤ 40000) (hlb : lb.length ≤ 40000) :
    Calls Try.prog 99 #[.slice (some ⟨ga, oa, none⟩) la.length ac, .slice (some ⟨gb, ob, none⟩) lb.length bc, cmpF] w fun e w' => ∃ v, e = .returned v ∧ NL w' w.heap.size v (mrg la lb) ∧ Below w.heap.size w w' := by
  have hac := ha.capl
  have hbc := hb_.capl
  have hacb := ha.capb
  have hbcb := hb_.capb
  have HNA := Lib.hid ha
  have HNB := Lib.hid hb_
  obtain ⟨i0, hi, hz0, hz1, hz2⟩ := info_parts info_int
  obtain ⟨n, hn⟩ : ∃ n, la.length = n := ⟨_, rfl⟩
  obtain ⟨m, hm⟩ : ∃ m, lb.length = m := ⟨_, rfl⟩
  have HN := Lib.hid hn
  have HM := Lib.hid hm
  rw [hn] at hla hac ⊢
  rw [hm] at hlb hbc ⊢
  clear ha hb_ hn hm
  obtain ⟨k, hk⟩ : ∃ k, n + m = k := ⟨_, rfl⟩
  have hki : (n : Int) + (m : Int) = (k : Nat) := by omega
  obtain ⟨MC, run_mk, hMC⟩ := make_ints k (by omega)
  go_enter Try.func99, Try.ntmps99
  go_wp2_with fail
  refine name_world ?_
  intro V hV
  have NC : Hid (NL V w.heap.size (.slice (some ⟨w.heap.size, 0, none⟩) 0 k) []) := by
    rw [hV]
    exact Lib.hid ⟨by simp, .inr ⟨w.heap.size, k, MC, rfl, Nat.le_refl _, World.alloc_heap_new w _, by simp, by unfold maxLen; omega, by omega, by simp⟩⟩
  have BV : Hid (Below w.heap.size w V) := by rw [hV]; exact Lib.hid (below_a1 _ _)
  have NA := Lib.hid (HNA.out.of BV.out)
  have NB := Lib.hid (HNB.out.of BV.out)
  clear hV HNA HNB run_mk hMC hki
  go_loopg [0, 1, 7] (n + m) (fun gk s0 s1 s7 wr => ∃ (p q c oa' ob' ac' bc' : Nat) (co : Option Addr) (cc : Nat) (A B C : List Nat), s0 = .slice (some ⟨ga, oa', none⟩) p ac' ∧ s1 = .slice (some ⟨gb, ob', none⟩) q bc' ∧ s7 = .slice co c cc ∧ p + q ≤ gk ∧ p ≤ 40000 ∧ q ≤ 40000 ∧ c + (p + q) = n + m ∧ Hid (A.length = p ∧ B.length = q ∧ C.length = c) ∧ Hid (C ++ mrg A B = mrg la lb) ∧ Hid (Nb w.heap.size wr ga oa' ac' A) ∧ Hid (Nb w.heap.size wr gb ob' bc' B) ∧ Hid (NL wr w.heap.size (.slice co c cc) C) ∧ Hid (Below w.heap.size w wr))
  case atStart => exact ⟨n, m, 0, oa, ob, ac, bc, _, _, la, lb, [], rfl, rfl, rfl, Nat.le_refl _, hla, hlb, by omega, Lib.hid ⟨HN.out, HM.out, rfl⟩, Lib.hid (List.nil_append _), NA, NB, NC, BV⟩
  case round =>
    clear NA NB NC BV
    obtain ⟨p, q, c, oa', ob', ac', bc', co, cc, A, B, C, rfl, rfl, rfl, hgk, hp, hq, hc, HL, HE, NA, NB, NC, HW⟩ := hrel
    have ca := NA.out.capl
    have cab := NA.out.capb
    have cb := NB.out.capl
    have cbb := NB.out.capb
    rw [HL.out.1] at ca
    rw [HL.out.2.1] at cb
    by_cases hpq : 0 < p ∧ 0 < q
    · obtain ⟨hp0, hq0⟩ := hpq
      obtain ⟨x, A', hA⟩ : ∃ x A', A = x :: A' := by
        cases A with
        | nil => have := HL.out.1; simp at this; omega
        | cons x A' => exact ⟨x, A', rfl⟩
      obtain ⟨y, B', hB⟩ : ∃ y B', B = y :: B' := by
        cases B with
        | nil => have := HL.out.2.1; simp at this; omega
        | cons y B' => exact ⟨y, B', rfl⟩
      subst hA
      subst hB
      have p0 : wr.cell? ⟨ga, oa', none⟩ = some (.int .i64 (x : Nat)) := NA.out.cell 0 x rfl
      have q0 : wr.cell? ⟨gb, ob', none⟩ = some (.int .i64 (y : Nat)) := NB.out.cell 0 y rfl
      have lga := NA.out.lt
      have lgb := NB.out.lt
      have hp0i : (0 : Int) < (p : Int) := by omega
      have hq0i : (0 : Int) < (q : Int) := by omega
      obtain ⟨r, hr⟩ : ∃ r, cmpI (y : Int) (x : Int) = r := ⟨_, rfl⟩
      have HRR := Lib.hid hr
      have hr3 : (r < 0 ∧ y < x) ∨ (¬ r < 0 ∧ ¬ y < x) := by rw [← hr]; unfold cmpI; split <;> omega
      clear hr
      go_wp2_with fail
      refine wp_region_up wr.heap.size 7 [(true, 0), (true, 1), (true, 2), (true, 3), (true, 4), (true, 5), (true, 6)] (by kernel_rfl) (by kernel_rfl) (fun _ _ d _ _ h => by cases d <;> exact h) ?_
      have hb : Below wr.heap.size wr wr.drew := (Below.refl _ _).drew
      iterate 7
        refine wpS_takeL rfl rfl ?_
        go_big_quiet_step (rfl)
        refine wpQuiet_nil ?_
      refine wpS_nil ?_
      simp only [List.drop_succ_cons, List.drop_zero]
      go_wp2_with fail
      refine (CmpI_is (y : Nat) (x : Nat) r HRR.out _).mono ?_
      rintro e w2 ⟨rfl, hn⟩
      have hb12 := hb.trans (hn.mono hb.size)
      have NA2 := Lib.hid (NA.out.of (hb12.mono HW.out.size))
      have NB2 := Lib.hid (NB.out.of (hb12.mono HW.out.size))
      have NC2 := Lib.hid (NC.out.of hb12)
      have HW2 := Lib.hid (HW.out.trans (hb12.mono HW.out.size))
      clear hb hn hb12 p0 q0 lga lgb NA NB NC HW
      have p0 : w2.cell? ⟨ga, oa', none⟩ = some (.int .i64 (x : Nat)) := NA2.out.cell 0 x rfl
      have q0 : w2.cell? ⟨gb, ob', none⟩ = some (.int .i64 (y : Nat)) := NB2.out.cell 0 y rfl
      have lga := NA2.out.lt
      have lgb := NB2.out.lt
      obtain ⟨RL, hRL⟩ : ∃ RL, (Value.slice co c cc).ownBlock.toList = RL := ⟨_, rfl⟩
      have HRL := Lib.hid hRL
      have na : ga ∉ RL := by rw [← hRL]; intro h; have := (NC2.out.own (by simpa using h)).1; have := NA2.out.lo; omega
      have nb : gb ∉ RL := by rw [← hRL]; intro h; have := (NC2.out.own (by simpa using h)).1; have := NB2.out.lo; omega
      clear hRL
      have hsz2 := HW2.out.size
      rcases hr3 with ⟨hr0, hyx⟩ | ⟨hr0, hyx⟩
      · rcases Nat.lt_or_ge 1 bc' with hb1 | hb1
        · have hb1 : ¬ bc' = 1 := by omega
          skip
          go_wp2_with fail
          refine wp_region_upl RL 9 [(true, 0), (true, 1), (true, 2), (true, 3), (true, 6), (true, 7), (false, 4), (false, 5), (true, 8)] (by kernel_rfl) (by kernel_rfl) (fun _ _ d _ _ h => by cases d <;> exact h) ?_
          iterate 6
            refine wpS_takeL rfl rfl ?_
            go_big_quiet_step (rfl)
            refine wpQuiet_nil ?_
          refine wpS_doL rfl ?_
          intro K hK
          go_wp2_with fail
          refine name_Kw ?_
          intro Wx hWx
          have kx : Blk Wx w2.heap.size #[.int .i64 (y : Nat)] 3 := by rw [hWx]; exact Blk.new w2.drew _ _
          have hbx : Below w2.heap.size w2 Wx := by rw [hWx]; exact ((Below.refl _ _).drew).alloc (by simp) _
          have hsx : Wx.heap.size = w2.heap.size + 1 := by rw [hWx]; simp
          refine hK.out _ _ (upl (OutL.ofBelow hbx)) ?_
          clear hK K hWx
          refine wpS_doL rfl ?_
          intro K hK
          refine wpList_append_nl rfl _ _ rfl w.heap.size (.slice co c cc) C y w2.heap.size rfl rfl kx (NC2.out.of hbx) (by rw [HL.out.2.2]; omega) (by omega) ?_
          intro co5 c5 cc5 W5 nl5 gr5
          have hc5 : c5 = c + 1 := by
            obtain ⟨_, _, e, _⟩ := nl5.val
            injection e with _ e _
            rw [e, List.length_append, HL.out.2.2]; rfl
          subst hc5
          have hbo5 : OutL RL w2 W5 := (OutL.ofBelow hbx).trans ⟨gr5.os, gr5.tape, gr5.output, gr5.size, fun k hk hc => gr5.block k hk fun e => hc (by rw [← HRL.out, ← e]; simp)⟩
          have hW5 : Below w.heap.size w2 W5 := hbo5.below hsz2 (fun k hk => (NC2.out.own (by rw [← HRL.out] at hk; simpa using hk)).1)
          have NA5 := Lib.hid (NA2.out.of hW5)
          have NB5 := Lib.hid ((NB2.out.of hW5).tail (o' := ob' + 1) (.inl rfl))
          have NC5 := Lib.hid nl5
          have HW5 := Lib.hid (HW2.out.trans hW5)
          have HE5 : Hid ((C ++ [y]) ++ mrg (x :: A') B' = mrg la lb) := by
            have := HE.out
            rw [mrg_lt hyx] at this
            rw [List.append_assoc]; exact Lib.hid this
          have HL5 : Hid ((x :: A').length = p ∧ B'.length = q - 1 ∧ (C ++ [y]).length = c + 1) := by
            have h1 := HL.out.1
            have h2 := HL.out.2.1
            simp only [List.length_cons] at h1 h2
            exact Lib.hid ⟨by first | exact HL.out.1 | omega, by first | exact HL.out.2.1 | omega, by rw [List.length_append, HL.out.2.2]; rfl⟩
          go_wp2_with fail
          refine hK.out _ _ (upl hbo5) ?_
          clear hK K kx hbx hsx hbo5 hW5 nl5 gr5 p0 q0 lga lgb na nb HRL
          simp only [Act.put, List.setIfInBounds_toArray, List.set_cons_succ, List.set_cons_zero]
          refine wpS_takeL rfl rfl ?_
          go_big_quiet_step (rfl)
          refine wpQuiet_nil ?_
          refine wpS_nil ?_
          simp only [List.drop_succ_cons, List.drop_zero]
          go_wp2_with fail
          go_roundg (p + q - 1)
          case measure => omega
          case rel => exact ⟨p, q - 1, c + 1, oa', ob' + 1, ac', bc' - 1, co5, cc5, (x :: A'), B', C ++ [y], by rfl, by rfl, rfl, by omega, by omega, by omega, by omega, HL5, HE5, NA5, NB5, NC5, HW5⟩
        · have hb1 : bc' = 1 := by omega
          subst hb1
          obtain rfl : q = 1 := by omega
          go_wp2_with fail
          refine wp_region_upl RL 9 [(true, 0), (true, 1), (true, 2), (true, 3), (true, 6), (true, 7), (false, 4), (false, 5), (true, 8)] (by kernel_rfl) (by kernel_rfl) (fun _ _ d _ _ h => by cases d <;> exact h) ?_
          iterate 6
            refine wpS_takeL rfl rfl ?_
            go_big_quiet_step (rfl)
            refine wpQuiet_nil ?_
          refine wpS_doL rfl ?_
          intro K hK
          go_wp2_with fail
          refine name_Kw ?_
          intro Wx hWx
          have kx : Blk Wx w2.heap.size #[.int .i64 (y : Nat)] 3 := by rw [hWx]; exact Blk.new w2.drew _ _
          have hbx : Below w2.heap.size w2 Wx := by rw [hWx]; exact ((Below.refl _ _).drew).alloc (by simp) _
          have hsx : Wx.heap.size = w2.heap.size + 1 := by rw [hWx]; simp
          refine hK.out _ _ (upl (OutL.ofBelow hbx)) ?_
          clear hK K hWx
          refine wpS_doL rfl ?_
          intro K hK
          refine wpList_append_nl rfl _ _ rfl w.heap.size (.slice co c cc) C y w2.heap.size rfl rfl kx (NC2.out.of hbx) (by rw [HL.out.2.2]; omega) (by omega) ?_
          intro co5 c5 cc5 W5 nl5 gr5
          have hc5 : c5 = c + 1 := by
            obtain ⟨_, _, e, _⟩ := nl5.val
            injection e with _ e _
            rw [e, List.length_append, HL.out.2.2]; rfl
          subst hc5
          have hbo5 : OutL RL w2 W5 := (OutL.ofBelow hbx).trans ⟨gr5.os, gr5.tape, gr5.output, gr5.size, fun k hk hc => gr5.block k hk fun e => hc (by rw [← HRL.out, ← e]; simp)⟩
          have hW5 : Below w.heap.size w2 W5 := hbo5.below hsz2 (fun k hk => (NC2.out.own (by rw [← HRL.out] at hk; simpa using hk)).1)
          have NA5 := Lib.hid (NA2.out.of hW5)
          have NB5 := Lib.hid ((NB2.out.of hW5).tail (o' := ob') (.inr (by have := NB2.out.capl; simp only [List.length_cons] at this; exact List.eq_nil_of_length_eq_zero (by omega))))
          have NC5 := Lib.hid nl5
          have HW5 := Lib.hid (HW2.out.trans hW5)
          have HE5 : Hid ((C ++ [y]) ++ mrg (x :: A') B' = mrg la lb) := by
            have := HE.out
            rw [mrg_lt hyx] at this
            rw [List.append_assoc]; exact Lib.hid this
          have HL5 : Hid ((x :: A').length = p ∧ B'.length = 1 - 1 ∧ (C ++ [y]).length = c + 1) := by
            have h1 := HL.out.1
            have h2 := HL.out.2.1
            simp only [List.length_cons] at h1 h2
            exact Lib.hid ⟨by first | exact HL.out.1 | omega, by first | exact HL.out.2.1 | omega, by rw [List.length_append, HL.out.2.2]; rfl⟩
          go_wp2_with fail
          refine hK.out _ _ (upl hbo5) ?_
          clear hK K kx hbx hsx hbo5 hW5 nl5 gr5 p0 q0 lga lgb na nb HRL
          simp only [Act.put, List.setIfInBounds_toArray, List.set_cons_succ, List.set_cons_zero]
          refine wpS_takeL rfl rfl ?_
          go_big_quiet_step (rfl)
          refine wpQuiet_nil ?_
          refine wpS_nil ?_
          simp only [List.drop_succ_cons, List.drop_zero]
          go_wp2_with fail
          go_roundg (p + 1 - 1)
          case measure => omega
          case rel => exact ⟨p, 1 - 1, c + 1, oa', ob', ac', 1 - 1, co5, cc5, (x :: A'), B', C ++ [y], by rfl, by rfl, rfl, by omega, by omega, by omega, by omega, HL5, HE5, NA5, NB5, NC5, HW5⟩
      · rcases Nat.lt_or_ge 1 ac' with hb1 | hb1
        · have hb1 : ¬ ac' = 1 := by omega
          skip
          go_wp2_with fail
          refine wp_region_upl RL 9 [(true, 0), (true, 1), (true, 2), (true, 3), (true, 6), (true, 7), (false, 4), (false, 5), (true, 8)] (by kernel_rfl) (by kernel_rfl) (fun _ _ d _ _ h => by cases d <;> exact h) ?_
          iterate 6
            refine wpS_takeL rfl rfl ?_
            go_big_quiet_step (rfl)
            refine wpQuiet_nil ?_
          refine wpS_doL rfl ?_
          intro K hK
          go_wp2_with fail
          refine name_Kw ?_
          intro Wx hWx
          have kx : Blk Wx w2.heap.size #[.int .i64 (x : Nat)] 3 := by rw [hWx]; exact Blk.new w2.drew _ _
          have hbx : Below w2.heap.size w2 Wx := by rw [hWx]; exact ((Below.refl _ _).drew).alloc (by simp) _
          have hsx : Wx.heap.size = w2.heap.size + 1 := by rw [hWx]; simp
          refine hK.out _ _ (upl (OutL.ofBelow hbx)) ?_
          clear hK K hWx
          refine wpS_doL rfl ?_
          intro K hK
          refine wpList_append_nl rfl _ _ rfl w.heap.size (.slice co c cc) C x w2.heap.size rfl rfl kx (NC2.out.of hbx) (by rw [HL.out.2.2]; omega) (by omega) ?_
          intro co5 c5 cc5 W5 nl5 gr5
          have hc5 : c5 = c + 1 := by
            obtain ⟨_, _, e, _⟩ := nl5.val
            injection e with _ e _
            rw [e, List.length_append, HL.out.2.2]; rfl
          subst hc5
          have hbo5 : OutL RL w2 W5 := (OutL.ofBelow hbx).trans ⟨gr5.os, gr5.tape, gr5.output, gr5.size, fun k hk hc => gr5.block k hk fun e => hc (by rw [← HRL.out, ← e]; simp)⟩
          have hW5 : Below w.heap.size w2 W5 := hbo5.below hsz2 (fun k hk => (NC2.out.own (by rw [← HRL.out] at hk; simpa using hk)).1)
          have NA5 := Lib.hid ((NA2.out.of hW5).tail (o' := oa' + 1) (.inl rfl))
          have NB5 := Lib.hid (NB2.out.of hW5)
          have NC5 := Lib.hid nl5
          have HW5 := Lib.hid (HW2.out.trans hW5)
          have HE5 : Hid ((C ++ [x]) ++ mrg A' (y :: B') = mrg la lb) := by
            have := HE.out
            rw [mrg_ge hyx] at this
            rw [List.append_assoc]; exact Lib.hid this
          have HL5 : Hid (A'.length = p - 1 ∧ (y :: B').length = q ∧ (C ++ [x]).length = c + 1) := by
            have h1 := HL.out.1
            have h2 := HL.out.2.1
            simp only [List.length_cons] at h1 h2
            exact Lib.hid ⟨by first | exact HL.out.1 | omega, by first | exact HL.out.2.1 | omega, by rw [List.length_append, HL.out.2.2]; rfl⟩
          go_wp2_with fail
          refine hK.out _ _ (upl hbo5) ?_
          clear hK K kx hbx hsx hbo5 hW5 nl5 gr5 p0 q0 lga lgb na nb HRL
          simp only [Act.put, List.setIfInBounds_toArray, List.set_cons_succ, List.set_cons_zero]
          refine wpS_takeL rfl rfl ?_
          go_big_quiet_step (rfl)
          refine wpQuiet_nil ?_
          refine wpS_nil ?_
          simp only [List.drop_succ_cons, List.drop_zero]
          go_wp2_with fail
          go_roundg (p + q - 1)
          case measure => omega
          case rel => exact ⟨p - 1, q, c + 1, oa' + 1, ob', ac' - 1, bc', co5, cc5, A', (y :: B'), C ++ [x], by rfl, by rfl, rfl, by omega, by omega, by omega, by omega, HL5, HE5, NA5, NB5, NC5, HW5⟩
        · have hb1 : ac' = 1 := by omega
          subst hb1
          obtain rfl : p = 1 := by omega
          go_wp2_with fail
          refine wp_region_upl RL 9 [(true, 0), (true, 1), (true, 2), (true, 3), (true, 6), (true, 7), (false, 4), (false, 5), (true, 8)] (by kernel_rfl) (by kernel_rfl) (fun _ _ d _ _ h => by cases d <;> exact h) ?_
          iterate 6
            refine wpS_takeL rfl rfl ?_
            go_big_quiet_step (rfl)
            refine wpQuiet_nil ?_
          refine wpS_doL rfl ?_
          intro K hK
          go_wp2_with fail
          refine name_Kw ?_
          intro Wx hWx
          have kx : Blk Wx w2.heap.size #[.int .i64 (x : Nat)] 3 := by rw [hWx]; exact Blk.new w2.drew _ _
          have hbx : Below w2.heap.size w2 Wx := by rw [hWx]; exact ((Below.refl _ _).drew).alloc (by simp) _
          have hsx : Wx.heap.size = w2.heap.size + 1 := by rw [hWx]; simp
          refine hK.out _ _ (upl (OutL.ofBelow hbx)) ?_
          clear hK K hWx
          refine wpS_doL rfl ?_
          intro K hK
          refine wpList_append_nl rfl _ _ rfl w.heap.size (.slice co c cc) C x w2.heap.size rfl rfl kx (NC2.out.of hbx) (by rw [HL.out.2.2]; omega) (by omega) ?_
          intro co5 c5 cc5 W5 nl5 gr5
          have hc5 : c5 = c + 1 := by
            obtain ⟨_, _, e, _⟩ := nl5.val
            injection e with _ e _
            rw [e, List.length_append, HL.out.2.2]; rfl
          subst hc5
          have hbo5 : OutL RL w2 W5 := (OutL.ofBelow hbx).trans ⟨gr5.os, gr5.tape, gr5.output, gr5.size, fun k hk hc => gr5.block k hk fun e => hc (by rw [← HRL.out, ← e]; simp)⟩
          have hW5 : Below w.heap.size w2 W5 := hbo5.below hsz2 (fun k hk => (NC2.out.own (by rw [← HRL.out] at hk; simpa using hk)).1)
          have NA5 := Lib.hid ((NA2.out.of hW5).tail (o' := oa') (.inr (by have := NA2.out.capl; simp only [List.length_cons] at this; exact List.eq_nil_of_length_eq_zero (by omega))))
          have NB5 := Lib.hid (NB2.out.of hW5)
          have NC5 := Lib.hid nl5
          have HW5 := Lib.hid (HW2.out.trans hW5)
          have HE5 : Hid ((C ++ [x]) ++ mrg A' (y :: B') = mrg la lb) := by
            have := HE.out
            rw [mrg_ge hyx] at this
            rw [List.append_assoc]; exact Lib.hid this
          have HL5 : Hid (A'.length = 1 - 1 ∧ (y :: B').length = q ∧ (C ++ [x]).length = c + 1) := by
            have h1 := HL.out.1
            have h2 := HL.out.2.1
            simp only [List.length_cons] at h1 h2
            exact Lib.hid ⟨by first | exact HL.out.1 | omega, by first | exact HL.out.2.1 | omega, by rw [List.length_append, HL.out.2.2]; rfl⟩
          go_wp2_with fail
          refine hK.out _ _ (upl hbo5) ?_
          clear hK K kx hbx hsx hbo5 hW5 nl5 gr5 p0 q0 lga lgb na nb HRL
          simp only [Act.put, List.setIfInBounds_toArray, List.set_cons_succ, List.set_cons_zero]
          refine wpS_takeL rfl rfl ?_
          go_big_quiet_step (rfl)
          refine wpQuiet_nil ?_
          refine wpS_nil ?_
          simp only [List.drop_succ_cons, List.drop_zero]
          go_wp2_with fail
          go_roundg (1 + q - 1)
          case measure => omega
          case rel => exact ⟨1 - 1, q, c + 1, oa', ob', 1 - 1, bc', co5, cc5, A', (y :: B'), C ++ [x], by rfl, by rfl, rfl, by omega, by omega, by omega, by omega, HL5, HE5, NA5, NB5, NC5, HW5⟩
    · rcases Nat.eq_zero_or_pos p with hp0 | hp0
      · subst hp0
        have hmr : mrg A B = A ++ B := by
          have h1 := HL.out.1
          have h2 := HL.out.2.1
          first
          | (have e : A = [] := List.eq_nil_of_length_eq_zero (by omega)
             simp [e, mrg_nil])
          | (have e : B = [] := List.eq_nil_of_length_eq_zero (by omega)
             simp [e, mrg_nil2])
        have hlA : (nI A).length = 0 * 1 := by have h1 := nI_len A; have h2 := HL.out.1; omega
        have hlB : (nI B).length = q * 1 := by have h1 := nI_len B; have h2 := HL.out.2.1; omega
        have hb1 : C.length + 0 ≤ maxLen := by unfold maxLen; have := HL.out.2.2; omega
        have hb2 : (C.length + 0) * 8 ≤ 140737488355328 := by have := HL.out.2.2; omega
        have hb3 : (C ++ A).length + q ≤ maxLen := by unfold maxLen; rw [List.length_append]; have h1 := HL.out.2.2; have h2 := HL.out.1; omega
        have hb4 : ((C ++ A).length + q) * 8 ≤ 140737488355328 := by rw [List.length_append]; have h1 := HL.out.2.2; have h2 := HL.out.1; omega
        have HE2 := Lib.hid (show C ++ (A ++ B) = mrg la lb by rw [← hmr]; exact HE.out)
        have hszr := HW.out.size
        clear hmr
        go_wp2_with (at_builtin; go_loud (refine wpList_append_lies _ rfl _ _ 29 rfl w.heap.size 3 i0 (.int .i64 0) 1 8 Try.underlying29 hi hz0 hz1 hz2 rfl (by decide) (.slice co c cc) C.length (nI C) rfl NC.out ⟨ga, oa', none⟩ 0 ac' (nI A) rfl hlA NA.out.src (nI_one A) hb1 hb2 hszr ?_))
        intro v1 w1 own1 gr1 _
        have NC1 : Hid (NL w1 w.heap.size v1 (C ++ A)) := by
          refine Lib.hid ?_
          unfold NL
          rw [List.length_append, List.map_append, HL.out.1]; exact own1
        have hW1 : Below w.heap.size wr w1 := ⟨gr1.os, gr1.tape, gr1.output, gr1.size, fun g hg => gr1.block g (by omega) (fun e => by have := (NC.out.own e.symm).1; omega)⟩
        have NB1 := Lib.hid (NB.out.of hW1)
        have HW1 := Lib.hid (HW.out.trans hW1)
        have hs1 := HW1.out.size
        clear own1 gr1 hW1 NC NA NB HW
        go_wp2_with (at_builtin; go_loud (refine wpList_append_lies _ rfl _ _ 29 rfl w.heap.size 3 i0 (.int .i64 0) 1 8 Try.underlying29 hi hz0 hz1 hz2 rfl (by decide) v1 (C ++ A).length (nI (C ++ A)) rfl NC1.out ⟨gb, ob', none⟩ q bc' (nI B) rfl hlB NB1.out.src (nI_one B) hb3 hb4 hs1 ?_))
        intro v2 w2 own2 gr2 _
        have NC2 : Hid (NL w2 w.heap.size v2 (mrg la lb)) := by
          rw [← HE2.out, ← List.append_assoc]
          refine Lib.hid ?_
          unfold NL
          rw [List.length_append, List.map_append, HL.out.2.1, List.length_append]; exact own2
        have hW2 : Below w.heap.size w1 w2 := ⟨gr2.os, gr2.tape, gr2.output, gr2.size, fun g hg => gr2.block g (by omega) (fun e => by have := (NC1.out.own e.symm).1; omega)⟩
        have HW2 := Lib.hid (HW1.out.trans hW2)
        clear own2 gr2 hW2 NC1 NB1 HW1
        go_wp2
        go_ret
        exact ⟨_, rfl, NC2.out, HW2.out⟩
      · have hq0 : q = 0 := by omega
        subst hq0
        have hp0i : (0 : Int) < (p : Int) := by omega
        have hmr : mrg A B = A ++ B := by
          have h1 := HL.out.1
          have h2 := HL.out.2.1
          first
          | (have e : A = [] := List.eq_nil_of_length_eq_zero (by omega)
             simp [e, mrg_nil])
          | (have e : B = [] := List.eq_nil_of_length_eq_zero (by omega)
             simp [e, mrg_nil2])
        have hlA : (nI A).length = p * 1 := by have h1 := nI_len A; have h2 := HL.out.1; omega
        have hlB : (nI B).length = 0 * 1 := by have h1 := nI_len B; have h2 := HL.out.2.1; omega
        have hb1 : C.length + p ≤ maxLen := by unfold maxLen; have := HL.out.2.2; omega
        have hb2 : (C.length + p) * 8 ≤ 140737488355328 := by have := HL.out.2.2; omega
        have hb3 : (C ++ A).length + 0 ≤ maxLen := by unfold maxLen; rw [List.length_append]; have h1 := HL.out.2.2; have h2 := HL.out.1; omega
        have hb4 : ((C ++ A).length + 0) * 8 ≤ 140737488355328 := by rw [List.length_append]; have h1 := HL.out.2.2; have h2 := HL.out.1; omega
        have HE2 := Lib.hid (show C ++ (A ++ B) = mrg la lb by rw [← hmr]; exact HE.out)
        have hszr := HW.out.size
        clear hmr
        go_wp2_with (at_builtin; go_loud (refine wpList_append_lies _ rfl _ _ 29 rfl w.heap.size 3 i0 (.int .i64 0) 1 8 Try.underlying29 hi hz0 hz1 hz2 rfl (by decide) (.slice co c cc) C.length (nI C) rfl NC.out ⟨ga, oa', none⟩ p ac' (nI A) rfl hlA NA.out.src (nI_one A) hb1 hb2 hszr ?_))
        intro v1 w1 own1 gr1 _
        have NC1 : Hid (NL w1 w.heap.size v1 (C ++ A)) := by
          refine Lib.hid ?_
          unfold NL
          rw [List.length_append, List.map_append, HL.out.1]; exact own1
        have hW1 : Below w.heap.size wr w1 := ⟨gr1.os, gr1.tape, gr1.output, gr1.size, fun g hg => gr1.block g (by omega) (fun e => by have := (NC.out.own e.symm).1; omega)⟩
        have NB1 := Lib.hid (NB.out.of hW1)
        have HW1 := Lib.hid (HW.out.trans hW1)
        have hs1 := HW1.out.size
        clear own1 gr1 hW1 NC NA NB HW
        go_wp2_with (at_builtin; go_loud (refine wpList_append_lies _ rfl _ _ 29 rfl w.heap.size 3 i0 (.int .i64 0) 1 8 Try.underlying29 hi hz0 hz1 hz2 rfl (by decide) v1 (C ++ A).length (nI (C ++ A)) rfl NC1.out ⟨gb, ob', none⟩ 0 bc' (nI B) rfl hlB NB1.out.src (nI_one B) hb3 hb4 hs1 ?_))
        intro v2 w2 own2 gr2 _
        have NC2 : Hid (NL w2 w.heap.size v2 (mrg la lb)) := by
          rw [← HE2.out, ← List.append_assoc]
          refine Lib.hid ?_
          unfold NL
          rw [List.length_append, List.map_append, HL.out.2.1, List.length_append]; exact own2
        have hW2 : Below w.heap.size w1 w2 := ⟨gr2.os, gr2.tape, gr2.output, gr2.size, fun g hg => gr2.block g (by omega) (fun e => by have := (NC1.out.own e.symm).1; omega)⟩
        have HW2 := Lib.hid (HW1.out.trans hW2)
        clear own2 gr2 hW2 NC1 NB1 HW1
        go_wp2
        go_ret
        exact ⟨_, rfl, NC2.out, HW2.out⟩
end Go.Proofs.Ytdlpfiiakmhnlaa

namespace Go.Proofs.Ytdlpfiiakmhnlaa
open Go.RowKit

/-- pieces of s things are in order -/
def Pcs (s : Nat) (l : List Nat) : Prop := ∀ k, Asc ((l.drop (k * s)).take s)
theorem asc_short {l : List Nat} (h : l.length ≤ 1) : Asc l := by
  match l, h with
  | [], _ => exact List.Pairwise.nil
  | [x], _ => exact List.pairwise_singleton _ _
theorem pcs_one (l : List Nat) : Pcs 1 l := fun k => asc_short (by rw [List.length_take]; omega)
theorem pcs_end {s : Nat} {l : List Nat} (h : Pcs s l) (hl : l.length ≤ s) : Asc l := by
  have := h 0
  rw [Nat.zero_mul, List.drop_zero, List.take_of_length_le hl] at this
  exact this
theorem pcs_app {t j : Nat} {l m : List Nat} (ht : 0 < t) (h : Pcs t l) (hl : l.length = j * t) (hm : Asc m) (hml : m.length ≤ t) : Pcs t (l ++ m) := by
  intro k
  rcases Nat.lt_trichotomy k j with hk | hk | hk
  · have h1 : (k + 1) * t ≤ j * t := Nat.mul_le_mul_right t hk
    rw [Nat.succ_mul] at h1
    rw [List.drop_append_of_le_length (by omega), List.take_append_of_le_length (by rw [List.length_drop]; omega)]
    exact h k
  · subst hk
    rw [← hl, List.drop_left, List.take_of_length_le hml]
    exact hm
  · have h1 : (j + 1) * t ≤ k * t := Nat.mul_le_mul_right t hk
    rw [Nat.succ_mul] at h1
    rw [List.drop_eq_nil_of_le (by rw [List.length_append]; omega)]
    simp [Asc]
/-- a piece of a list -/
def cut (l : List Nat) (a b : Nat) : List Nat := (l.drop a).take (b - a)
theorem cut_len {l : List Nat} {a b : Nat} (hb : b ≤ l.length) : (cut l a b).length = b - a := by unfold cut; rw [List.length_take, List.length_drop]; omega
theorem cut_at {l : List Nat} {a b j : Nat} {x : Nat} (h : (cut l a b)[j]? = some x) : l[a + j]? = some x := by
  unfold cut at h
  rcases Nat.lt_or_ge j (b - a) with h1 | h1
  · rw [List.getElem?_take_of_lt h1, List.getElem?_drop] at h; exact h
  · rw [List.getElem?_take_eq_none h1] at h; cases h
theorem cut_asc {s j : Nat} {l : List Nat} {a b : Nat} (h : Pcs s l) (ha : a = j * s) (hb : b = min (a + s) l.length) : Asc (cut l a b) := by
  have := h j
  unfold cut
  rw [← ha] at this
  rcases Nat.le_total (a + s) l.length with h1 | h1
  · rw [hb, Nat.min_eq_left h1, show a + s - a = s by omega]; exact this
  · rw [hb, Nat.min_eq_right h1]
    rw [List.take_of_length_le (by rw [List.length_drop]; omega)] at this
    rw [List.take_of_length_le (by rw [List.length_drop]; omega)]; exact this
theorem mem_cut {l : List Nat} {a b : Nat} (hab : a ≤ b) (z : Nat) : z ∈ l.take b ↔ z ∈ l.take a ∨ z ∈ cut l a b := by
  have e : l.take b = l.take a ++ cut l a b := by
    unfold cut
    conv => lhs; rw [show b = a + (b - a) by omega]
    rw [List.take_add]
  rw [e, List.mem_append]
theorem pass_one {s j c n mid en : Nat} {R X : List Nat} (hs : 1 ≤ s) (hR : R.length = n) (hP : Pcs s R) (hc : c = j * (2 * s)) (hcn : c < n) (hmid : mid = min (c + s) n) (hen : en = min (c + 2 * s) n) (hX : X.length = c) (hXP : Pcs (2 * s) X) (hXm : ∀ z, z ∈ X ↔ z ∈ R.take c) :
    (mrg (cut R c mid) (cut R mid en)).length = en - c ∧ Pcs (2 * s) (X ++ mrg (cut R c mid) (cut R mid en)) ∧ ∀ z, z ∈ X ++ mrg (cut R c mid) (cut R mid en) ↔ z ∈ R.take en := by
  have l1 : (cut R c mid).length = mid - c := cut_len (by omega)
  have l2 : (cut R mid en).length = en - mid := cut_len (by omega)
  have lm : (mrg (cut R c mid) (cut R mid en)).length = en - c := by rw [mrg_len _ _ _ (Nat.le_refl _), l1, l2]; omega
  have e1 : c = (2 * j) * s := by rw [hc, Nat.mul_left_comm, Nat.mul_assoc]
  have a1 : Asc (cut R c mid) := cut_asc hP e1 (by rw [hR]; exact hmid)
  have a2 : Asc (cut R mid en) := by
    rcases Nat.lt_or_ge n (c + s) with h | h
    · exact asc_short (by omega)
    · have e2 : mid = (2 * j + 1) * s := by rw [Nat.succ_mul, ← e1]; omega
      exact cut_asc hP e2 (by rw [hR]; omega)
  refine ⟨lm, pcs_app (j := j) (by omega) hXP (by rw [hX]; exact hc) (mrg_asc _ _ _ (Nat.le_refl _) a1 a2) (by omega), fun z => ?_⟩
  rw [List.mem_append, mrg_mem _ _ _ (Nat.le_refl _), hXm, mem_cut (show mid ≤ en by omega), mem_cut (show c ≤ mid by omega), or_assoc]
end Go.Proofs.Ytdlpfiiakmhnlaa

