/- My texts HuA, TrA, PaA, PaB, HuB, HuC, HuD, HuE, RegKB, AwUB, HuR, HuS, HuF, HuG, HuH, HuI, joined: what the last one needs of them. Conditions: as each lemma says. -/
import Derived.Test.YtdcihglpfchcmaaSHl2
import Derived.KernelRfl
import Derived.StillTail
import Derived.OrdersHeld
import Derived.Deep.Quiet
import Derived.Below
import Derived.WalkKit
import Derived.Test.YtdcihglpfchcmaaProg
import Derived.WalkSpells
import Derived.StillTactics
import Derived.Laws.Pointers
import Derived.Deep.RegionHeld3
import Derived.RowKit3
import Derived.Deep.QuietTactic
import Derived.BigQuiet
import Derived.BigRegion
import Derived.Lib.Hide
import Derived.WalkSmall
import Derived.Laws.BitsAllLaws
import Derived.IntWalk
import Derived.Deep.OwnRows
import Derived.Deep.LoopGhost
import Derived.Shelf.Bits.Mul64
import Derived.ProofKit
import Derived.OpenShut
import Derived.ShutString
import Derived.ChangeOld
import Derived.Lib.SmallJoins
import Derived.Laws.IdiomArrays
import Derived.Laws.CopyOwn
import Derived.Laws.AppendOwn
import Derived.Deep.DeepAppendRoom
import Derived.Lib.AppendZerosOnto
import Derived.Lib.Overlaps
import Derived.Deep.RegionLaw
import Derived.Shelf.SlSortCmp.WholeK
import Derived.Shelf.SlicesQ.Reverse
import Derived.Sort.LoopGhostIn
import Derived.RangeFuncNested
import Derived.RangeFuncBound
import Derived.RangeFuncCalls
import Derived.RangeFuncLeaves
import Derived.OwnWalk
import Derived.OwnWalkIn
import Derived.TacticsInMore
import Derived.LoopNIn
import Derived.LoopIn
import Derived.Deep.DeepFit
import Derived.Deep.DeepCutAuto
import Derived.Shelf.Abstract
import Derived.Shelf.RegionOpen
import Derived.Maps.OwnIn
import Derived.Deep.SlicePairs
namespace Go.Proofs.Ytdcihglpfchcmaa
open Go.RowKit

/-- the turn of three things with coordinates x, y -/
def hT {α : Type} (x y : α → Int) (a b c : α) : Int := (x b - x a) * (y c - y a) - (y b - y a) * (x c - x a)
section
variable {α : Type} {x y : α → Int}
theorem hnonneg {a b : Int} (h : 0 < a) (k : 0 ≤ a * b) : 0 ≤ b := by
  rcases Int.lt_or_le b 0 with h1 | h1
  · have := Int.mul_lt_mul_of_pos_left h1 h; simp at this; omega
  · exact h1
theorem hthru {u v p k : α} (hu : x u < x v) (hk : x k < x v) (hp : x v < x p) (h1 : 0 ≤ hT x y u v k) (h2 : 0 ≤ hT x y u v p) : 0 ≤ hT x y v p k := by
  have e : (x v - x u) * hT x y v p k = (x p - x v) * hT x y u v k + (x v - x k) * hT x y u v p := by unfold hT; grind
  have m1 : 0 ≤ (x p - x v) * hT x y u v k := Int.mul_nonneg (by omega) h1
  have m2 : 0 ≤ (x v - x k) * hT x y u v p := Int.mul_nonneg (by omega) h2
  exact hnonneg (a := x v - x u) (by omega) (by omega)
theorem hbelow {v w p k : α} (hw : x v < x w) (hk : x v < x k) (hp : x v < x p) (h1 : 0 ≤ hT x y v w k) (h2 : hT x y v w p ≤ 0) : 0 ≤ hT x y v p k := by
  have e : (x w - x v) * hT x y v p k = (x p - x v) * hT x y v w k + (x k - x v) * -hT x y v w p := by unfold hT; grind
  have m1 : 0 ≤ (x p - x v) * hT x y v w k := Int.mul_nonneg (by omega) h1
  have m2 : 0 ≤ (x k - x v) * -hT x y v w p := Int.mul_nonneg (by omega) (by omega)
  exact hnonneg (a := x w - x v) (by omega) (by omega)
theorem hon {a b c p : α} (h1 : x a < x b) (h2 : x b < x c) (h3 : x c < x p) (g1 : 0 ≤ hT x y a b c) (g2 : 0 ≤ hT x y b c p) : 0 ≤ hT x y a b p := by
  have e : (x c - x b) * hT x y a b p = (x b - x a) * hT x y b c p + (x p - x b) * hT x y a b c := by unfold hT; grind
  have m1 : 0 ≤ (x b - x a) * hT x y b c p := Int.mul_nonneg (by omega) g2
  have m2 : 0 ≤ (x p - x b) * hT x y a b c := Int.mul_nonneg (by omega) g1
  exact hnonneg (a := x c - x b) (by omega) (by omega)
theorem hT_a (a b : α) : hT x y a b a = 0 := by unfold hT; grind
theorem hT_b (a b : α) : hT x y a b b = 0 := by unfold hT; grind
variable (t : α → α → α → Bool) (g : α)
/-- how many of the chain stay when p comes -/
def hpop (o : List α) (p : α) : Nat → Nat
  | 0 => 0
  | n + 1 => if 0 < n ∧ t (o.getD (n - 1) g) (o.getD n g) p = true then hpop o p n else n + 1
def hpush (o : List α) (p : α) : List α := o.take (hpop t g o p o.length) ++ [p]
def hchain (l : List α) : List α := l.foldl (hpush t g) []
theorem hpop_spec (o : List α) (p : α) : ∀ n, 1 ≤ n → 1 ≤ hpop t g o p n ∧ hpop t g o p n ≤ n ∧ (1 < hpop t g o p n → t (o.getD (hpop t g o p n - 2) g) (o.getD (hpop t g o p n - 1) g) p = false) ∧
    (hpop t g o p n < n → t (o.getD (hpop t g o p n - 1) g) (o.getD (hpop t g o p n) g) p = true)
  | 0 => by omega
  | n + 1 => by
    intro _
    unfold hpop
    by_cases h : 0 < n ∧ t (o.getD (n - 1) g) (o.getD n g) p = true
    · rw [if_pos h]
      obtain ⟨a, b, c, d⟩ := hpop_spec o p n (by omega)
      refine ⟨a, by omega, c, fun _ => ?_⟩
      rcases Nat.lt_or_ge (hpop t g o p n) n with h1 | h1
      · exact d h1
      · have e : hpop t g o p n = n := by omega
        rw [e]; exact h.2
    · rw [if_neg h]
      refine ⟨by omega, by omega, fun h1 => ?_, by omega⟩
      cases h2 : t (o.getD (n + 1 - 2) g) (o.getD (n + 1 - 1) g) p
      · rfl
      · exact absurd ⟨by omega, by simpa using h2⟩ h
/-- a chain over the points S -/
structure HC (x y : α → Int) (g : α) (S o : List α) : Prop where
  ne : 0 < o.length
  fst : ∀ q, q ∈ S → o.getD 0 g = q ∨ x (o.getD 0 g) < x q
  lst : ∀ q, q ∈ S → q = o.getD (o.length - 1) g ∨ x q < x (o.getD (o.length - 1) g)
  mem : ∀ i, i < o.length → o.getD i g ∈ S
  up : ∀ i, i + 1 < o.length → x (o.getD i g) < x (o.getD (i + 1) g)
  edge : ∀ i, i + 1 < o.length → ∀ q, q ∈ S → 0 ≤ hT x y (o.getD i g) (o.getD (i + 1) g) q
  turn : ∀ i, i + 2 < o.length → 0 < hT x y (o.getD i g) (o.getD (i + 1) g) (o.getD (i + 2) g)
theorem take_getD (o : List α) (p : α) {j i : Nat} (hj : j ≤ o.length) : (o.take j ++ [p]).getD i g = if i < j then o.getD i g else if i = j then p else g := by
  by_cases h : i < j
  · rw [if_pos h, List.getD_eq_getElem?_getD, List.getD_eq_getElem?_getD, List.getElem?_append_left (by simp; omega), List.getElem?_take_of_lt h]
  · rw [if_neg h, List.getD_eq_getElem?_getD, List.getElem?_append_right (by simp; omega), List.length_take, Nat.min_eq_left hj]
    by_cases h2 : i = j
    · simp [h2]
    · rw [if_neg h2, List.getElem?_eq_none (by simp; omega)]; rfl
theorem HC.push {S o : List α} (H : HC x y g S o) (ht : ∀ a b c, t a b c = true ↔ hT x y a b c ≤ 0) {p : α} (hp : ∀ q, q ∈ S → x q < x p) : HC x y g (S ++ [p]) (hpush t g o p) := by
  obtain ⟨j1, j2, j3, j4⟩ := hpop_spec t g o p o.length H.ne
  unfold hpush
  generalize hpop t g o p o.length = j at j1 j2 j3 j4
  have ge : ∀ i, i < j → (o.take j ++ [p]).getD i g = o.getD i g := fun i hi => by rw [take_getD g o p j2, if_pos hi]
  have gp : (o.take j ++ [p]).getD j g = p := by rw [take_getD g o p j2, if_neg (by omega), if_pos rfl]
  have len : (o.take j ++ [p]).length = j + 1 := by simp; omega
  have t3 : 1 < j → 0 < hT x y (o.getD (j - 2) g) (o.getD (j - 1) g) p := fun h => by
    have h1 := j3 h
    rcases Int.lt_or_le 0 (hT x y (o.getD (j - 2) g) (o.getD (j - 1) g) p) with h2 | h2
    · exact h2
    · rw [(ht _ _ _).2 h2] at h1; exact absurd h1 (by simp)
  have hm : ∀ i, i < o.length → x (o.getD i g) < x p := fun i hi => hp _ (H.mem i hi)
  have up2 : ∀ d, d + 2 ≤ j → 0 ≤ hT x y (o.getD (j - 2 - d) g) (o.getD (j - 2 - d + 1) g) p := by
    intro d
    induction d with
    | zero =>
      intro hd
      have := t3 (by omega)
      rw [show j - 2 - 0 + 1 = j - 1 by omega]
      exact Int.le_of_lt this
    | succ d ih =>
      intro hd
      have h1 := ih (by omega)
      have e1 : j - 2 - d = j - 2 - (d + 1) + 1 := by omega
      have e2 : j - 2 - d + 1 = j - 2 - (d + 1) + 2 := by omega
      rw [e2, e1] at h1
      exact hon (H.up _ (by omega)) (H.up _ (by omega)) (hm _ (by omega)) (Int.le_of_lt (H.turn _ (by omega))) h1
  refine ⟨by omega, ?_, ?_, ?_, ?_, ?_, ?_⟩
  · intro q hq
    rw [ge 0 (by omega)]
    rcases List.mem_append.1 hq with h | h
    · exact H.fst q h
    · rw [List.mem_singleton.1 h]; exact Or.inr (hm 0 H.ne)
  · intro q hq
    rw [len, Nat.add_sub_cancel, gp]
    rcases List.mem_append.1 hq with h | h
    · exact Or.inr (hp q h)
    · exact Or.inl (List.mem_singleton.1 h)
  · intro i hi
    rw [len] at hi
    rcases Nat.lt_or_ge i j with h | h
    · rw [ge i h]; exact List.mem_append.2 (Or.inl (H.mem i (by omega)))
    · rw [show i = j by omega, gp]; exact List.mem_append.2 (Or.inr (by simp))
  · intro i hi
    rw [len] at hi
    rw [ge i (by omega)]
    rcases Nat.lt_or_ge (i + 1) j with h | h
    · rw [ge _ h]; exact H.up i (by omega)
    · rw [show i + 1 = j by omega, gp]; exact hm i (by omega)
  · intro i hi q hq
    rw [len] at hi
    rw [ge i (by omega)]
    rcases Nat.lt_or_ge (i + 1) j with h | h
    · rw [ge _ h]
      rcases List.mem_append.1 hq with h1 | h1
      · exact H.edge i (by omega) q h1
      · rw [List.mem_singleton.1 h1]
        have := up2 (j - 2 - i) (by omega)
        rw [show j - 2 - (j - 2 - i) = i by omega] at this
        exact this
    · have ej : i + 1 = j := by omega
      rw [ej, gp]
      rcases List.mem_append.1 hq with h1 | h1
      rotate_left
      · rw [List.mem_singleton.1 h1, hT_b]; exact Int.le_refl 0
      -- an older point
      have left : x q < x (o.getD i g) → 0 ≤ hT x y (o.getD i g) p q := by
        intro hlt
        rcases Nat.eq_zero_or_pos i with h0 | h0
        · subst h0
          rcases H.fst q h1 with h2 | h2
          · rw [h2] at hlt; omega
          · omega
        · have e := t3 (by omega)
          rw [show j - 2 = i - 1 by omega, show j - 1 = i by omega] at e
          have hu := H.up (i - 1) (by omega)
          have he := H.edge (i - 1) (by omega) q h1
          rw [show i - 1 + 1 = i by omega] at hu he
          exact hthru hu hlt (hm i (by omega)) he (Int.le_of_lt e)
      rcases Nat.lt_or_ge j o.length with h2 | h2
      · have h3 := (ht _ _ _).1 (j4 h2)
        have hw := H.up i (by omega)
        have he := H.edge i (by omega) q h1
        rw [ej] at hw he
        rw [show j - 1 = i by omega] at h3
        rcases Int.lt_trichotomy (x q) (x (o.getD i g)) with h4 | h4 | h4
        · exact left h4
        · have hz : x q - x (o.getD i g) = 0 := by omega
          have e1 : hT x y (o.getD i g) (o.getD j g) q = (x (o.getD j g) - x (o.getD i g)) * (y q - y (o.getD i g)) := by unfold hT; rw [hz]; grind
          have e2 : hT x y (o.getD i g) p q = (x p - x (o.getD i g)) * (y q - y (o.getD i g)) := by unfold hT; rw [hz]; grind
          rw [e2]
          have := hnonneg (a := x (o.getD j g) - x (o.getD i g)) (by omega) (by rw [← e1]; exact he)
          exact Int.mul_nonneg (by have := hm i (by omega); omega) this
        · exact hbelow hw h4 (hm i (by omega)) he h3
      · have e : o.length - 1 = i := by omega
        rcases H.lst q h1 with h3 | h3
        · rw [h3, e, hT_a]; exact Int.le_refl 0
        · rw [e] at h3; exact left h3
  · intro i hi
    rw [len] at hi
    rw [ge i (by omega), ge (i + 1) (by omega)]
    rcases Nat.lt_or_ge (i + 2) j with h | h
    · rw [ge _ h]; exact H.turn i (by omega)
    · have e := t3 (by omega)
      rw [show i + 2 = j by omega, gp]
      rw [show j - 2 = i by omega, show j - 1 = i + 1 by omega] at e
      exact e
theorem hchain_go (ht : ∀ a b c, t a b c = true ↔ hT x y a b c ≤ 0) : ∀ (r S o : List α), HC x y g S o → (S ++ r).Pairwise (fun a b => x a < x b) → HC x y g (S ++ r) (r.foldl (hpush t g) o)
  | [], S, o, H, _ => by rw [List.append_nil]; exact H
  | p :: r, S, o, H, hp => by
    have h1 : ∀ q, q ∈ S → x q < x p := fun q hq => (List.pairwise_append.1 hp).2.2 q hq p (by simp)
    have := hchain_go ht r (S ++ [p]) (hpush t g o p) (H.push t g ht h1) (by simpa using hp)
    simpa using this
theorem hchain_ok (ht : ∀ a b c, t a b c = true ↔ hT x y a b c ≤ 0) {l : List α} (hl : 0 < l.length) (hp : l.Pairwise (fun a b => x a < x b)) : HC x y g l (hchain t g l) := by
  match l, hl with
  | q :: r, _ =>
    have h0 : HC x y g [q] [q] := ⟨by simp, by simp, by simp, by simp, by simp, by simp, by simp⟩
    have := hchain_go t g ht r [q] [q] h0 (by simpa using hp)
    simpa [hchain, hpush, hpop] using this
end
section
variable {α : Type} {x y x' y' : α → Int} {g : α} {l lo hi : List α}
theorem hT_ng (hx : ∀ a, x' a = -x a) (hy : ∀ a, y' a = -y a) (a b c : α) : hT x' y' a b c = hT x y a b c := by unfold hT; rw [hx, hx, hx, hy, hy, hy]; grind
theorem HC.two (H : HC x y g l lo) {a b : α} (ha : a ∈ l) (hb : b ∈ l) (hab : x a < x b) : 2 ≤ lo.length := by
  rcases Nat.lt_or_ge lo.length 2 with h | h
  · have e : lo.length = 1 := by have := H.ne; omega
    have h1 := H.fst b hb; have h2 := H.lst a ha
    have h3 := H.fst a ha; have h4 := H.lst b hb
    rw [e] at h2 h4
    simp only [Nat.sub_self] at h2 h4
    rcases h1 with h1 | h1 <;> rcases h2 with h2 | h2
    · rw [← h2, ] at h1; rw [h1] at hab; omega
    · rw [h1] at h2 h3 h4; rcases h3 with h3 | h3
      · rw [h3] at hab; omega
      · omega
    · rw [← h2] at h1 h4; rcases h4 with h4 | h4
      · rw [h4] at hab; omega
      · omega
    · rcases h4 with h4 | h4
      · rw [← h4] at h1; omega
      · omega
  · exact h
/-- where the two chains meet they end in one point -/
theorem HC.meet (H : HC x y g l lo) (K : HC x' y' g l hi) (hx : ∀ a, x' a = -x a) : lo.getD (lo.length - 1) g = hi.getD 0 g := by
  have h1 := K.fst _ (H.mem (lo.length - 1) (by have := H.ne; omega))
  have h2 := H.lst _ (K.mem 0 K.ne)
  rcases h1 with h1 | h1
  · exact h1.symm
  · rcases h2 with h2 | h2
    · exact h2.symm
    · rw [hx, hx] at h1; omega
theorem HC.joint (H : HC x y g l lo) (K : HC x' y' g l hi) (hx : ∀ a, x' a = -x a) (hy : ∀ a, y' a = -y a) (hl : 2 ≤ lo.length) (hh : 2 ≤ hi.length) (hn : 4 < lo.length + hi.length) :
    0 < hT x y (lo.getD (lo.length - 2) g) (hi.getD 0 g) (hi.getD 1 g) := by
  have em := H.meet K hx
  have e1 := H.edge (lo.length - 2) (by omega)
  have e2 := K.edge 0 (by omega)
  have u1 := H.up (lo.length - 2) (by omega)
  have u2 := K.up 0 (by omega)
  rw [show lo.length - 2 + 1 = lo.length - 1 by omega, em] at e1 u1
  rw [hx, hx] at u2
  simp only [hT_ng hx hy, Nat.zero_add] at e2 u2
  have m1 := K.mem 1 (by omega)
  rcases Int.lt_or_eq_of_le (e1 _ m1) with h | h
  · exact h
  exfalso
  have hz := h.symm
  have key : ∀ q, q ∈ l → hT x y (lo.getD (lo.length - 2) g) (hi.getD 0 g) q = 0 ∧ hT x y (hi.getD 0 g) (hi.getD 1 g) q = 0 := by
    intro q hq
    have a1 := e1 q hq
    have a2 := e2 q hq
    generalize lo.getD (lo.length - 2) g = a at hz a1 u1 ⊢
    generalize hi.getD 0 g = b at hz a1 a2 u1 u2 ⊢
    generalize hi.getD 1 g = c at hz a2 u2 ⊢
    have p : (x b - x c) * hT x y a b q + (x b - x a) * hT x y b c q = -(hT x y a b c * (x q - x b)) := by unfold hT; grind
    rw [hz] at p
    have b1 := Int.mul_nonneg (a := x b - x c) (by omega) a1
    have b2 := Int.mul_nonneg (a := x b - x a) (by omega) a2
    have c1 : (x b - x c) * hT x y a b q = 0 := by omega
    have c2 : (x b - x a) * hT x y b c q = 0 := by omega
    constructor
    · rcases Int.mul_eq_zero.1 c1 with h | h
      · omega
      · exact h
    · rcases Int.mul_eq_zero.1 c2 with h | h
      · omega
      · exact h
  rcases Nat.lt_or_ge lo.length 3 with h3 | h3
  · have t := K.turn 0 (by omega)
    rw [hT_ng hx hy, (key _ (K.mem 2 (by omega))).2] at t
    omega
  · have t := H.turn (lo.length - 3) (by omega)
    rw [show lo.length - 3 + 2 = lo.length - 1 by omega, show lo.length - 3 + 1 = lo.length - 2 by omega, em] at t
    have z := (key _ (H.mem (lo.length - 3) (by omega))).1
    have : hT x y (lo.getD (lo.length - 3) g) (lo.getD (lo.length - 2) g) (hi.getD 0 g) = hT x y (lo.getD (lo.length - 2) g) (hi.getD 0 g) (lo.getD (lo.length - 3) g) := by unfold hT; grind
    omega
theorem cut_getD (g : α) (lo hi : List α) (i : Nat) (h : i < lo.length - 1 + (hi.length - 1)) : (lo.take (lo.length - 1) ++ hi.take (hi.length - 1)).getD i g = if i < lo.length - 1 then lo.getD i g else hi.getD (i - (lo.length - 1)) g := by
  rw [List.getD_eq_getElem?_getD]
  by_cases h1 : i < lo.length - 1
  · rw [if_pos h1, List.getElem?_append_left (by simp; omega), List.getElem?_take_of_lt h1, ← List.getD_eq_getElem?_getD]
  · rw [if_neg h1, List.getElem?_append_right (by simp; omega), List.length_take, Nat.min_eq_left (by omega), List.getElem?_take_of_lt (by omega), ← List.getD_eq_getElem?_getD]
/-- the corners of the hull of things that rise -/
structure HH (x y : α → Int) (g : α) (l h : List α) : Prop where
  two : 2 ≤ h.length
  mem : ∀ i, i < h.length → h.getD i g ∈ l
  fst : ∀ q, q ∈ l → h.getD 0 g = q ∨ x (h.getD 0 g) < x q
  edge : ∀ i, i < h.length → ∀ q, q ∈ l → 0 ≤ hT x y (h.getD i g) (h.getD ((i + 1) % h.length) g) q
  turn : 2 < h.length → ∀ i, i < h.length → 0 < hT x y (h.getD i g) (h.getD ((i + 1) % h.length) g) (h.getD ((i + 2) % h.length) g)
  pair : h.length = 2 → x (h.getD 0 g) < x (h.getD 1 g) ∧ ∀ q, q ∈ l → q = h.getD 1 g ∨ x q < x (h.getD 1 g)
theorem HC.hull (H : HC x y g l lo) (K : HC x' y' g l hi) (hx : ∀ a, x' a = -x a) (hy : ∀ a, y' a = -y a) {a b : α} (ha : a ∈ l) (hb : b ∈ l) (hab : x a < x b) :
    HH x y g l (lo.take (lo.length - 1) ++ hi.take (hi.length - 1)) := by
  have n1 := H.two ha hb hab
  have n2 := K.two hb ha (by rw [hx, hx]; omega)
  have hx' : ∀ a, x a = -x' a := fun a => by rw [hx]; omega
  have hy' : ∀ a, y a = -y' a := fun a => by rw [hy]; omega
  have m1 := H.meet K hx
  have m2 := K.meet H hx'
  have len : (lo.take (lo.length - 1) ++ hi.take (hi.length - 1)).length = lo.length - 1 + (hi.length - 1) := by simp
  have G := cut_getD g lo hi
  generalize lo.take (lo.length - 1) ++ hi.take (hi.length - 1) = h at len G
  have nx : ∀ i, i < h.length → (i < lo.length - 1 ∧ h.getD i g = lo.getD i g ∧ h.getD ((i + 1) % h.length) g = lo.getD (i + 1) g) ∨
      (lo.length - 1 ≤ i ∧ h.getD i g = hi.getD (i - (lo.length - 1)) g ∧ h.getD ((i + 1) % h.length) g = hi.getD (i - (lo.length - 1) + 1) g) := by
    intro i hi'
    rw [len] at hi'
    rcases Nat.lt_or_ge i (lo.length - 1) with h1 | h1
    · refine Or.inl ⟨h1, by rw [G i hi', if_pos h1], ?_⟩
      rw [Nat.mod_eq_of_lt (by omega), G _ (by omega)]
      by_cases h2 : i + 1 < lo.length - 1
      · rw [if_pos h2]
      · rw [if_neg h2, show i + 1 = lo.length - 1 by omega, m1, Nat.sub_self]
    · refine Or.inr ⟨h1, by rw [G i hi', if_neg (by omega)], ?_⟩
      by_cases h2 : i + 1 < h.length
      · rw [Nat.mod_eq_of_lt h2, G _ (by omega), if_neg (by omega), show i + 1 - (lo.length - 1) = i - (lo.length - 1) + 1 by omega]
      · rw [show i + 1 = h.length by omega, Nat.mod_self, G _ (by omega), if_pos (by omega), show i - (lo.length - 1) + 1 = hi.length - 1 by omega, m2]
  have g0 : h.getD 0 g = lo.getD 0 g := by rw [G 0 (by omega), if_pos (by omega)]
  refine ⟨by omega, ?_, ?_, ?_, ?_, ?_⟩
  · intro i hi'
    rcases nx i hi' with ⟨h1, h2, _⟩ | ⟨h1, h2, _⟩ <;> rw [h2]
    · exact H.mem _ (by omega)
    · exact K.mem _ (by omega)
  · intro q hq; rw [g0]; exact H.fst q hq
  · intro i hi' q hq
    rcases nx i hi' with ⟨h1, h2, h3⟩ | ⟨h1, h2, h3⟩ <;> rw [h2, h3]
    · exact H.edge _ (by omega) q hq
    · rw [← hT_ng hx hy]; exact K.edge _ (by omega) q hq
  · intro h3 i hi'
    have en : (i + 2) % h.length = ((i + 1) % h.length + 1) % h.length := by rw [Nat.mod_add_mod]
    have hj : (i + 1) % h.length < h.length := Nat.mod_lt _ (by omega)
    rw [en]
    rcases nx i hi' with ⟨h1, e1, e2⟩ | ⟨h1, e1, e2⟩
    · by_cases h4 : i + 1 < lo.length - 1
      · have em : (i + 1) % h.length = i + 1 := Nat.mod_eq_of_lt (by omega)
        rw [e1, e2]
        rcases nx _ hj with ⟨_, _, e4⟩ | ⟨h5, _, _⟩
        · rw [e4, em]; exact H.turn i (by omega)
        · rw [em] at h5; omega
      · have em : (i + 1) % h.length = lo.length - 1 := by rw [Nat.mod_eq_of_lt (by omega)]; omega
        rcases nx _ hj with ⟨h5, _, _⟩ | ⟨h5, e3, e4⟩
        · rw [em] at h5; omega
        · rw [e1, e4, e3, em, Nat.sub_self, Nat.zero_add, show i = lo.length - 2 by omega]
          exact H.joint K hx hy n1 n2 (by omega)
    · by_cases h4 : i + 1 < h.length
      · have em : (i + 1) % h.length = i + 1 := Nat.mod_eq_of_lt h4
        rw [e1, e2]
        rcases nx _ hj with ⟨h5, _, _⟩ | ⟨h5, _, e4⟩
        · rw [em] at h5; omega
        · rw [e4, em, show i + 1 - (lo.length - 1) + 1 = i - (lo.length - 1) + 2 by omega, ← hT_ng hx hy]; exact K.turn _ (by omega)
      · have em : (i + 1) % h.length = 0 := by rw [show i + 1 = h.length by omega, Nat.mod_self]
        rcases nx _ hj with ⟨h5, e3, e4⟩ | ⟨h5, _, _⟩
        · rw [e1, e4, e3, em, Nat.zero_add, show i - (lo.length - 1) = hi.length - 2 by omega, ← hT_ng hx hy]
          exact K.joint H hx' hy' n2 n1 (by omega)
        · rw [em] at h5; omega
  · intro h2
    have g1 : h.getD 1 g = lo.getD 1 g := by rw [G 1 (by omega), if_neg (by omega), show lo.length - 1 = 1 by omega, Nat.sub_self, ← m1]; rw [show lo.length - 1 = 1 by omega]
    rw [g0, g1]
    refine ⟨H.up 0 (by omega), fun q hq => ?_⟩
    have := H.lst q hq
    rwa [show lo.length - 1 = 1 by omega] at this
/-- the hull of things that rise by x: both chains, each without its last one -/
theorem hull_ok {t : α → α → α → Bool} (g : α) (ht : ∀ a b c, t a b c = true ↔ hT x y a b c ≤ 0) {l : List α} (hl : 2 ≤ l.length) (hp : l.Pairwise (fun a b => x a < x b)) :
    HH x y g l ((hchain t g l).take ((hchain t g l).length - 1) ++ (hchain t g l.reverse).take ((hchain t g l.reverse).length - 1)) := by
  have H := hchain_ok t g ht (by omega) hp
  have K : HC (fun a => -x a) (fun a => -y a) g l.reverse (hchain t g l.reverse) := hchain_ok t g (fun a b c => by rw [ht, hT_ng (x := x) (y := y) (fun _ => rfl) (fun _ => rfl)]) (by simp; omega) (List.pairwise_reverse.2 (hp.imp (fun {a b} h => by omega)))
  have K' : HC (fun a => -x a) (fun a => -y a) g l (hchain t g l.reverse) := ⟨K.ne, fun q hq => K.fst q (by simpa using hq), fun q hq => K.lst q (by simpa using hq), fun i hi => by simpa using K.mem i hi, K.up, fun i hi q hq => K.edge i hi q (by simpa using hq), K.turn⟩
  match l, hl with
  | a :: b :: r, _ =>
    have hab : x a < x b := (List.pairwise_cons.1 hp).1 b (by simp)
    exact H.hull K' (fun _ => rfl) (fun _ => rfl) (by simp) (by simp) hab
end
/-- points, told by their coordinates -/
abbrev PP := Int × Int
def ahP (a b : PP) : Bool := ahd a.1 a.2 b.1 b.2
def wyP (a b c : PP) : Int := way a.1 a.2 b.1 b.2 c.1 c.2
def rpP (a : PP) : Bool := rp a.1 a.2
/-- does the last one of a chain go? -/
def tP (a b c : PP) : Bool := decide (trn a.1 a.2 b.1 b.2 c.1 c.2 ≤ 0)
def hx (a : PP) : Int := a.1 * 8796093022208 + a.2
def hy (a : PP) : Int := a.2
theorem tP_iff (a b c : PP) : tP a b c = true ↔ hT hx hy a b c ≤ 0 := by
  have e : hT hx hy a b c = 8796093022208 * trn a.1 a.2 b.1 b.2 c.1 c.2 := by unfold hT hx hy trn; grind
  unfold tP
  rw [e]; simp only [decide_eq_true_eq]; omega
theorem ahP_iff (a b : PP) : ahP a b = true ↔ a.1 < b.1 ∨ a.1 = b.1 ∧ a.2 < b.2 := by
  unfold ahP ahd; simp
theorem ahP_no {a b : PP} (h : ahP a b = false) : ¬ (a.1 < b.1 ∨ a.1 = b.1 ∧ a.2 < b.2) := fun e => by rw [(ahP_iff a b).2 e] at h; cases h
theorem hx_lt {a b : PP} (ha : rpP a = true) (hb : rpP b = true) : ahP a b = true ↔ hx a < hx b := by
  have h1 := rp_co ha; have h2 := rp_co hb
  unfold Co at h1 h2
  rw [ahP_iff]; unfold hx; omega
theorem ahP_irr (a : PP) : ahP a a = false := by
  cases h : ahP a a
  · rfl
  · rw [ahP_iff] at h; omega
theorem wyP_sign {a b c : PP} (ha : rpP a = true) (hb : rpP b = true) (hc : rpP c = true) : wyP a b c = (trn a.1 a.2 b.1 b.2 c.1 c.2).sign := by
  unfold wyP way rp3; unfold rpP at ha hb hc; rw [ha, hb, hc]; rfl
theorem wyP_nonneg {a b c : PP} (ha : rpP a = true) (hb : rpP b = true) (hc : rpP c = true) : 0 ≤ wyP a b c ↔ 0 ≤ hT hx hy a b c := by
  have e : hT hx hy a b c = 8796093022208 * trn a.1 a.2 b.1 b.2 c.1 c.2 := by unfold hT hx hy trn; grind
  rw [wyP_sign ha hb hc, e, Int.sign_nonneg_iff]; omega
theorem wyP_pos {a b c : PP} (ha : rpP a = true) (hb : rpP b = true) (hc : rpP c = true) : 0 < wyP a b c ↔ 0 < hT hx hy a b c := by
  have e : hT hx hy a b c = 8796093022208 * trn a.1 a.2 b.1 b.2 c.1 c.2 := by unfold hT hx hy trn; grind
  rw [wyP_sign ha hb hc, e, Int.sign_pos_iff]; omega
theorem tP_way {a b c : PP} (ha : rpP a = true) (hb : rpP b = true) (hc : rpP c = true) : tP a b c = decide (wyP a b c ≤ 0) := by
  rw [wyP_sign ha hb hc]
  unfold tP
  apply Bool.eq_iff_iff.2
  simp only [decide_eq_true_eq]
  have := Int.sign_pos_iff (x := trn a.1 a.2 b.1 b.2 c.1 c.2)
  omega
/-- the place in a list, (0, 0) behind it -/
abbrev gP (l : List PP) (i : Nat) : PP := l.getD i (0, 0)
/-- what PointHulls asks of a hull -/
structure HSpec (L h : List PP) : Prop where
  nil : h.length = 0 ↔ L.length = 0
  wy : ∀ i, i < h.length → ∀ p, p ∈ L → 0 ≤ wyP (gP h i) (gP h ((i + 1) % h.length)) p
  fst : 0 < h.length → ∀ p, p ∈ L → ahP p (gP h 0) = false
  on : h.length ≤ 2 → 0 < h.length → ∀ p, p ∈ L → onB (gP h 0).1 (gP h 0).2 (gP h (h.length - 1)).1 (gP h (h.length - 1)).2 p.1 p.2 = true
  mem : ∀ i, i < h.length → gP h i ∈ L
  turn : 2 < h.length → ∀ i, i < h.length → 0 < wyP (gP h i) (gP h ((i + 1) % h.length)) (gP h ((i + 2) % h.length))
  two : h.length = 2 → gP h 0 ≠ gP h 1
def hullL (l : List PP) : List PP := if l.length < 2 then l else (hchain tP (0, 0) l).take ((hchain tP (0, 0) l).length - 1) ++ (hchain tP (0, 0) l.reverse).take ((hchain tP (0, 0) l.reverse).length - 1)
theorem onB_of {a b p : PP} (hz : wyP a b p = 0) (ha : rpP a = true) (hb : rpP b = true) (hp : rpP p = true) (h0 : ahP b a = false) (h1 : ahP p a = false) (h2 : ahP b p = false) : onB a.1 a.2 b.1 b.2 p.1 p.2 = true := by
  rw [onB_lex]
  unfold lexB rp3
  unfold ahP at h0 h1 h2
  unfold rpP at ha hb hp
  unfold wyP at hz
  rw [h0, h1, h2, ha, hb, hp, hz]; rfl
theorem hullL_ok {L l : List PP} (hm : ∀ p, p ∈ l ↔ p ∈ L) (hr : ∀ p, p ∈ L → rpP p = true) (hp : l.Pairwise (fun a b => ahP a b = true)) : HSpec L (hullL l) := by
  have nd : ∀ {a b : PP}, a ∈ L → b ∈ L → (ahP a b = true ↔ hx a < hx b) := fun ha hb => hx_lt (hr _ ha) (hr _ hb)
  unfold hullL
  by_cases h2 : l.length < 2
  · rw [if_pos h2]
    match l, h2, hm with
    | [], _, hm =>
      have : L = [] := List.eq_nil_iff_forall_not_mem.2 fun p hp => by simpa using (hm p).2 hp
      subst this
      exact ⟨by simp, by simp, by simp, by simp, by simp, by simp, by simp⟩
    | [a], _, hm =>
      have ha : a ∈ L := (hm a).1 (by simp)
      have hall : ∀ p, p ∈ L → p = a := fun p hp => by simpa using (hm p).2 hp
      have ra := hr a ha
      have hz : wyP a a a = 0 := by
        rw [wyP_sign ra ra ra]
        have : trn a.1 a.2 a.1 a.2 a.1 a.2 = 0 := by unfold trn; grind
        rw [this]; rfl
      refine ⟨⟨by simp, fun h => ?_⟩, ?_, ?_, ?_, ?_, by simp, by simp⟩
      · have := List.length_pos_of_mem ha; omega
      · intro i hi p hp
        have : i = 0 := by simpa using hi
        subst this
        rw [hall p hp, show (0 + 1) % [a].length = 0 by simp]
        show 0 ≤ wyP a a a
        omega
      · intro _ p hp; rw [hall p hp]; exact ahP_irr a
      · intro _ _ p hp; rw [hall p hp]; exact onB_of hz ra ra ra (ahP_irr a) (ahP_irr a) (ahP_irr a)
      · intro i hi
        have : i = 0 := by simpa using hi
        subst this; exact ha
  · rw [if_neg h2]
    have hp' : l.Pairwise (fun a b => hx a < hx b) := hp.imp_of_mem (fun {a b} ha hb h => (nd ((hm a).1 ha) ((hm b).1 hb)).1 h)
    have H := hull_ok (x := hx) (y := hy) (t := tP) (0, 0) tP_iff (by omega : 2 ≤ l.length) hp'
    generalize (hchain tP (0, 0) l).take ((hchain tP (0, 0) l).length - 1) ++ (hchain tP (0, 0) l.reverse).take ((hchain tP (0, 0) l.reverse).length - 1) = h at H
    have n2 := H.two
    have mm : ∀ i, i < h.length → gP h i ∈ L := fun i hi => (hm _).1 (H.mem i hi)
    have rr : ∀ i, i < h.length → rpP (gP h i) = true := fun i hi => hr _ (mm i hi)
    have ml : ∀ i, i % h.length < h.length := fun i => Nat.mod_lt _ (by omega)
    have hf : ∀ p, p ∈ L → ahP p (gP h 0) = false := fun p hp => by
      cases hc : ahP p (gP h 0)
      · rfl
      · have h1 := (nd hp (mm 0 (by omega))).1 hc
        rcases H.fst p ((hm p).2 hp) with h3 | h3
        · rw [← h3] at h1; exact absurd h1 (by show ¬ hx (h.getD 0 (0, 0)) < hx (h.getD 0 (0, 0)); omega)
        · have h4 : hx p < hx (h.getD 0 (0, 0)) := h1; omega
    have hw : ∀ i, i < h.length → ∀ p, p ∈ L → 0 ≤ wyP (gP h i) (gP h ((i + 1) % h.length)) p := fun i hi p hp => (wyP_nonneg (rr i hi) (rr _ (ml _)) (hr p hp)).2 (H.edge i hi p ((hm p).2 hp))
    refine ⟨⟨fun h => by omega, fun h => ?_⟩, hw, fun _ => hf, ?_, mm, ?_, ?_⟩
    · have := List.length_pos_of_mem (mm 0 (by omega)); omega
    · intro h3 _ p hp
      have e2 : h.length = 2 := by omega
      obtain ⟨p1, p2⟩ := H.pair e2
      rw [show h.length - 1 = 1 by omega]
      have w0 := hw 0 (by omega) p hp
      have w1 := hw 1 (by omega) p hp
      rw [e2] at w0 w1
      have sw : wyP (gP h 1) (gP h 0) p = -wyP (gP h 0) (gP h 1) p := way_swap _ _ _ _ _ _
      have w1' : 0 ≤ wyP (gP h 1) (gP h 0) p := w1
      have w0' : 0 ≤ wyP (gP h 0) (gP h 1) p := w0
      refine onB_of (by omega) (rr 0 (by omega)) (rr 1 (by omega)) (hr p hp) ?_ (hf p hp) ?_
      · cases hc : ahP (gP h 1) (gP h 0)
        · rfl
        · have h5 := (nd (mm 1 (by omega)) (mm 0 (by omega))).1 hc
          have h6 : hx (gP h 0) < hx (gP h 1) := p1
          omega
      · cases hc : ahP (gP h 1) p
        · rfl
        · have h5 := (nd (mm 1 (by omega)) hp).1 hc
          rcases p2 p ((hm p).2 hp) with h6 | h6
          · rw [h6] at h5; exact absurd h5 (by show ¬ hx (h.getD 1 (0, 0)) < hx (h.getD 1 (0, 0)); omega)
          · have h7 : hx p < hx (gP h 1) := h6; omega
    · intro h3 i hi
      exact (wyP_pos (rr i hi) (rr _ (ml _)) (rr _ (ml _))).2 (H.turn h3 i hi)
    · intro e2 he
      have h6 : hx (gP h 0) < hx (gP h 1) := (H.pair e2).1
      rw [he] at h6; omega
/-- runs of equal ones, each by one alone -/
def cpt (L : List PP) : Nat → List PP
  | 0 => []
  | r + 1 => if 0 < r ∧ gP L r = gP L (r - 1) then cpt L r else cpt L r ++ [gP L r]
theorem cpt_len (L : List PP) : ∀ r, (cpt L r).length ≤ r
  | 0 => by simp [cpt]
  | r + 1 => by
    have := cpt_len L r
    unfold cpt; split
    · omega
    · simp; omega
theorem cpt_take (L : List PP) : ∀ r, r ≤ L.length → (∀ k, 0 < k → k < r → gP L k ≠ gP L (k - 1)) → cpt L r = L.take r
  | 0, _, _ => by simp [cpt]
  | r + 1, h, hn => by
    unfold cpt
    rw [if_neg, cpt_take L r (by omega) (fun k h0 h1 => hn k h0 (by omega)), List.take_add_one, List.getElem?_eq_getElem (by omega)]
    · show _ = L.take r ++ [L[r]]
      rw [show gP L r = L[r] by unfold gP; rw [List.getD_eq_getElem?_getD, List.getElem?_eq_getElem (by omega)]; rfl]
    · rintro ⟨h0, h1⟩; exact hn r h0 (by omega) h1
theorem gP_mem {L : List PP} {i : Nat} (h : i < L.length) : gP L i ∈ L := by
  unfold gP; rw [List.getD_eq_getElem?_getD, List.getElem?_eq_getElem h]; exact List.getElem_mem h
/-- sorted: the next one is the same or behind -/
theorem cpt_ris {L : List PP} (hs : ∀ i j, i < j → j < L.length → ahP (gP L j) (gP L i) = false) : ∀ r, r ≤ L.length → (cpt L r).Pairwise (fun a b => ahP a b = true) ∧ (∀ p, p ∈ cpt L r → ∃ i, i < r ∧ p = gP L i) ∧ (∀ i, i < r → gP L i ∈ cpt L r)
  | 0, _ => ⟨by simp [cpt], by simp [cpt], by omega⟩
  | r + 1, h => by
    obtain ⟨a, b, c⟩ := cpt_ris hs r (by omega)
    unfold cpt
    by_cases h1 : 0 < r ∧ gP L r = gP L (r - 1)
    · rw [if_pos h1]
      refine ⟨a, fun p hp => ?_, fun i hi => ?_⟩
      · obtain ⟨i, hi, e⟩ := b p hp; exact ⟨i, by omega, e⟩
      · rcases Nat.lt_or_ge i r with h2 | h2
        · exact c i h2
        · rw [show i = r by omega, h1.2]; exact c (r - 1) (by omega)
    · rw [if_neg h1]
      refine ⟨List.pairwise_append.2 ⟨a, by simp, fun p hp q hq => ?_⟩, fun p hp => ?_, fun i hi => ?_⟩
      · rw [List.mem_singleton.1 hq]
        obtain ⟨i, hi, rfl⟩ := b p hp
        have hne : gP L r ≠ gP L (r - 1) := fun e => h1 ⟨by omega, e⟩
        have s1 := hs i r hi (by omega)
        have s2 := hs (r - 1) r (by omega) (by omega)
        have s3 : i = r - 1 ∨ ahP (gP L (r - 1)) (gP L i) = false := by
          rcases Nat.lt_or_ge i (r - 1) with h5 | h5
          · exact .inr (hs i (r - 1) h5 (by omega))
          · exact .inl (by omega)
        generalize gP L r = u at hne s1 s2 ⊢
        have t1 : ahP (gP L (r - 1)) u = true := by
          rw [ahP_iff]
          have n2 := ahP_no s2
          have n3 : ¬ (u.1 = (gP L (r - 1)).1 ∧ u.2 = (gP L (r - 1)).2) := fun e => hne (Prod.ext e.1 e.2)
          omega
        rcases s3 with h5 | h5
        · rw [h5]; exact t1
        · rw [ahP_iff] at t1 ⊢
          have n3 := ahP_no h5
          omega
      · rcases List.mem_append.1 hp with h3 | h3
        · obtain ⟨i, hi, e⟩ := b p h3; exact ⟨i, by omega, e⟩
        · exact ⟨r, by omega, List.mem_singleton.1 h3⟩
      · rcases Nat.lt_or_ge i r with h2 | h2
        · exact List.mem_append.2 (.inl (c i h2))
        · rw [show i = r by omega]; exact List.mem_append.2 (.inr (by simp))
/-- sorted, and each one once -/
theorem sorted_ok {L l : List PP} (hperm : l.Perm L) (hs : ∀ i j, i < j → j < l.length → ahP (gP l j) (gP l i) = false) (hr : ∀ p, p ∈ L → rpP p = true) : HSpec L (hullL (cpt l l.length)) := by
  obtain ⟨a, b, c⟩ := cpt_ris hs l.length (Nat.le_refl _)
  refine hullL_ok (fun p => ⟨fun h => ?_, fun h => ?_⟩) hr a
  · obtain ⟨i, hi, rfl⟩ := b p h; exact hperm.mem_iff.1 (gP_mem hi)
  · obtain ⟨i, hi⟩ := List.mem_iff_getElem?.1 (hperm.mem_iff.2 h)
    have hl := (List.getElem?_eq_some_iff.1 hi).1
    have : gP l i = p := by unfold gP; rw [List.getD_eq_getElem?_getD, hi]; rfl
    rw [← this]; exact c i hl
end Go.Proofs.Ytdcihglpfchcmaa

namespace Go.Proofs.Ytdcihglpfchcmaa
open Go.RowKit

section
variable {P : Program}
/-- a clear of a part of a row -/
theorem run_clear_rowk (w : World) (t e ty : TypeId) (i : TypeInfo) (z : Value) (ht : P.underlying t = some (.slice e)) (hi : P.info? e = some i) (hz : i.zero = some z) (g o n c : Nat) (cur : Array Value) (t' : TypeId)
    (hg : w.heap[g]? = some (.cells cur t' (0, 0))) (hn : 0 < n) (hfit : o + n * z.cells.size ≤ cur.size) (h1 : ∀ v ∈ z.cells.toList, v.oneCell' = true) :
    (Builtin.clear_ #[t] ty #[.slice (some ⟨g, o, none⟩) n c]).run P w = .ok (.tuple #[]) (w.setRow g (cur.toList.take o ++ (Builtin.zeroCells z.cells n).toList ++ cur.toList.drop (o + n * z.cells.size)).toArray) := by
  have hsz : (Builtin.zeroCells z.cells n).toList.length = n * z.cells.size := by rw [Array.length_toList]; exact size_zeroCells z.cells n
  have hst := run_storeCells_at P g o t' (Builtin.zeroCells z.cells n).toList 0 cur w hg (by rw [hsz]; simpa using hfit) (by
    intro v hv
    simp [Builtin.zeroCells] at hv
    obtain ⟨k, hk, hv⟩ := hv
    subst hv
    have hs0 : 0 < z.cells.size := by
      rcases Nat.eq_zero_or_pos z.cells.size with h0 | h0
      · rw [h0] at hk; omega
      · exact h0
    have hm : k % z.cells.size < z.cells.size := Nat.mod_lt _ hs0
    refine h1 _ ?_
    rw [getElem!_pos z.cells _ hm]; simp)
  rw [hsz] at hst
  obtain ⟨m, rfl⟩ : ∃ m, n = m + 1 := ⟨n - 1, by omega⟩
  simp [Builtin.clear_, run_underlying ht, zeroValue, typeInfo, hi, hz, hst]
theorem wpList_clear_run {w : World} {ops : Array Oper} {rest : List Oper} {o : Oper} {a : Act} {Q : Exit → Act → World → Prop} (hgd : o.guard = none) (d : Operand) (dT : TypeId)
    (ho : o.op = .call { callee := .builtin .clear, args := #[d], argTypes := #[dT] }) (v : Value) (hd : a.eval d = v) {v' : Value} {w' : World} (hr : (Builtin.clear_ #[dT] o.type #[v]).run P w = .ok v' w') (h : wpList P ops Q rest (a.put o.dst v') w') : wpList P ops Q (o :: rest) a w := by
  refine wpList_plain hgd fun K hK => ?_
  unfold Oper.wp
  simp [execOp, ho, resolve, invoke, builtin, hd, hr, Result.andThen]
  exact hK _ _ h
end
theorem add_pl (g o n : Nat) : (⟨g, o, none⟩ : Addr).add n = ⟨g, o + n, none⟩ := by
  unfold Addr.add; split
  · rename_i h; rw [h, Nat.add_zero]
  · rfl
/-- the cells of a list of halves -/
def hC : List (Nat × Nat) → List Value
  | [] => []
  | h :: l => .int .i64 h.1 :: .int .i64 h.2 :: hC l
end Go.Proofs.Ytdcihglpfchcmaa

namespace Go.Proofs.Ytdcihglpfchcmaa
open Go.RowKit

/-- the next one around a way -/
def nx (n i : Nat) : Nat := (i + 1) % n
end Go.Proofs.Ytdcihglpfchcmaa

namespace Go.Proofs.Ytdcihglpfchcmaa
open Go.RowKit

theorem Pts.at {w wr : World} {ao : Option Addr} {n cap : Nat} {X Y : Nat → Int} (h : Pts w ao n cap X Y) (hb : Below w.heap.size w wr) {i : Nat} (hi : i < n) :
    ∃ a, ao = some a ∧ wr.cell? (a.add (i * 2)) = some (.int .i64 (X i)) ∧ wr.cell? { block := (a.add (i * 2)).block, off := (a.add (i * 2)).off + 1 } = some (.int .i64 (Y i)) := by
  obtain ⟨a, h1, h2, h3⟩ := h.ptr (by omega)
  have e1 : ∀ k, (a.add k).block = a.block := fun k => by unfold Addr.add; split <;> rfl
  have e2 : ∀ k l, ((a.add k).add l).block = a.block := fun k l => by unfold Addr.add; split <;> split <;> rfl
  refine ⟨a, h1, ?_, ?_⟩
  · rw [hb.cell (by rw [e1]; exact h2)]; exact (h3 i hi).1
  · have : wr.cell? ((a.add (i * 2)).add 1) = some (.int .i64 (Y i)) := by rw [hb.cell (by rw [e2]; exact h2)]; exact (h3 i hi).2
    exact this
end Go.Proofs.Ytdcihglpfchcmaa

namespace Go.Proofs.Ytdcihglpfchcmaa
open Go.RowKit

theorem cell_row {w : World} {g : Nat} {cur : Array Value} {t : TypeId} (hg : w.heap[g]? = some (.cells cur t (0, 0))) (o : Nat) : w.cell? ⟨g, o, none⟩ = cur[o]? := by
  unfold World.cell?; simp [hg]
theorem frozen_row {w : World} {g : Nat} {cur : Array Value} {t : TypeId} (hg : w.heap[g]? = some (.cells cur t (0, 0))) (o : Nat) : w.frozen? ⟨g, o, none⟩ = false := by
  unfold World.frozen?; simp [hg]
/-- a row of points by its places -/
def RowP (w : World) (g cap m : Nat) (f : Nat → PP) : Prop := ∃ cur, w.heap[g]? = some (.cells cur 25 (0, 0)) ∧ m ≤ cap ∧ cap ≤ maxLen ∧ cur.size = cap * 2 ∧ ∀ k, k < m → cur[k * 2]? = some (.int .i64 (f k).1) ∧ cur[k * 2 + 1]? = some (.int .i64 (f k).2)
theorem RowP.cell {w : World} {g cap m : Nat} {f : Nat → PP} (h : RowP w g cap m f) {k : Nat} (hk : k < m) : w.cell? ⟨g, k * 2, none⟩ = some (.int .i64 (f k).1) ∧ w.cell? ⟨g, k * 2 + 1, none⟩ = some (.int .i64 (f k).2) := by
  obtain ⟨cur, h1, h2, h3, h4, h5⟩ := h
  rw [cell_row h1, cell_row h1]; exact h5 k hk
theorem RowP.free {w : World} {g cap m : Nat} {f : Nat → PP} (h : RowP w g cap m f) (k : Nat) : w.frozen? ⟨g, k, none⟩ = false := by
  obtain ⟨cur, h1, _⟩ := h
  exact frozen_row h1 k
theorem RowP.lt {w : World} {g cap m : Nat} {f : Nat → PP} (h : RowP w g cap m f) : g < w.heap.size := by
  obtain ⟨cur, h1, _⟩ := h
  exact (Array.getElem?_eq_some_iff.1 h1).1
theorem RowP.caps {w : World} {g cap m : Nat} {f : Nat → PP} (h : RowP w g cap m f) : m ≤ cap ∧ cap ≤ maxLen := by
  obtain ⟨cur, h1, h2, h3, _⟩ := h
  exact ⟨h2, h3⟩
theorem RowP.drew {w : World} {g cap m : Nat} {f : Nat → PP} (h : RowP w g cap m f) : RowP w.drew g cap m f := h
theorem RowP.of {w w' : World} {g cap m : Nat} {f : Nat → PP} (h : RowP w g cap m f) (e : w'.heap[g]? = w.heap[g]?) : RowP w' g cap m f := by
  obtain ⟨cur, h1, r⟩ := h
  exact ⟨cur, e.trans h1, r⟩
theorem RowP.below {w w' : World} {g cap m : Nat} {f : Nat → PP} (h : RowP w g cap m f) (hb : Below w.heap.size w w') : RowP w' g cap m f := h.of (hb.block g h.lt)
theorem RowP.congr {w : World} {g cap m : Nat} {f f' : Nat → PP} (h : RowP w g cap m f) (e : ∀ k, k < m → f k = f' k) : RowP w g cap m f' := by
  obtain ⟨cur, h1, h2, h3, h4, h5⟩ := h
  exact ⟨cur, h1, h2, h3, h4, fun k hk => by rw [← e k hk]; exact h5 k hk⟩
theorem RowP.less {w : World} {g cap m m' : Nat} {f : Nat → PP} (h : RowP w g cap m f) (e : m' ≤ m) : RowP w g cap m' f := by
  obtain ⟨cur, h1, h2, h3, h4, h5⟩ := h
  exact ⟨cur, h1, by omega, h3, h4, fun k hk => h5 k (by omega)⟩
theorem RowP.set {w : World} {g cap m : Nat} {f : Nat → PP} (h : RowP w g cap m f) {k : Nat} (hk : k < m) (x y : Int) : RowP ((w.setCell ⟨g, k * 2, none⟩ (.int .i64 x)).setCell ⟨g, k * 2 + 1, none⟩ (.int .i64 y)) g cap m (fun j => if j = k then (x, y) else f j) := by
  obtain ⟨cur, h1, h2, h3, h4, h5⟩ := h
  have e1 : (w.setCell ⟨g, k * 2, none⟩ (.int .i64 x)).heap[g]? = some (.cells (cur.setIfInBounds (k * 2) (.int .i64 x)) 25 (0, 0)) := by
    rw [setCell_eq_setRow w g (k * 2) cur _ _ _ h1]; exact setRow_heap w g cur _ _ _ h1
  refine ⟨(cur.setIfInBounds (k * 2) (.int .i64 x)).setIfInBounds (k * 2 + 1) (.int .i64 y), ?_, h2, h3, by simpa using h4, fun j hj => ?_⟩
  · rw [setCell_eq_setRow _ g (k * 2 + 1) _ _ _ _ e1]; exact setRow_heap _ g _ _ _ _ e1
  · dsimp only
    by_cases e : j = k
    · subst e
      rw [if_pos rfl]
      refine ⟨?_, ?_⟩
      · rw [Array.getElem?_setIfInBounds_ne (by omega), Array.getElem?_setIfInBounds]; simp; omega
      · rw [Array.getElem?_setIfInBounds]; simp; omega
    · rw [if_neg e, Array.getElem?_setIfInBounds_ne (by omega), Array.getElem?_setIfInBounds_ne (by omega), Array.getElem?_setIfInBounds_ne (by omega), Array.getElem?_setIfInBounds_ne (by omega)]
      exact h5 j hj
theorem grownP (w : World) (g k l : Nat) (u v : Value) : w.grownBy ((w.setCell ⟨g, k, none⟩ u).setCell ⟨g, l, none⟩ v) (some g) :=
  ⟨rfl, rfl, rfl, by simp [World.setCell], fun b _ hn => (Below.heap_setCell _ ⟨g, l, none⟩ v b (fun e => hn (by rw [e]))).trans (Below.heap_setCell w ⟨g, k, none⟩ u b (fun e => hn (by rw [e])))⟩
theorem grownBy.trans {w w' w'' : World} {r : Option Nat} (h : w.grownBy w' r) (k : w'.grownBy w'' r) : w.grownBy w'' r := ⟨k.os.trans h.os, k.tape.trans h.tape, k.output.trans h.output, Nat.le_trans h.size k.size, fun b hb hn => (k.block b (Nat.lt_of_lt_of_le hb h.size) hn).trans (h.block b hb hn)⟩
theorem grownBy.drew {w w' : World} {r : Option Nat} (h : w.grownBy w' r) : w.grownBy w'.drew r := ⟨h.os, h.tape, h.output, h.size, h.block⟩
theorem grownBy.refl (w : World) (r : Option Nat) : w.grownBy w r := ⟨rfl, rfl, rfl, Nat.le_refl _, fun _ _ _ => rfl⟩
theorem grownBy.belowT {w w' w'' : World} {r : Option Nat} (h : w.grownBy w' r) (k : Below w'.heap.size w' w'') : w.grownBy w'' r := ⟨k.os.trans h.os, k.tape.trans h.tape, k.output.trans h.output, Nat.le_trans h.size k.size, fun b hb hn => (k.block b (Nat.lt_of_lt_of_le hb h.size)).trans (h.block b hb hn)⟩
/-- a row told by its places, as a slice that is read -/
theorem RowP.pts {w : World} {g cap m : Nat} {f : Nat → PP} (h : RowP w g cap m f) : Pts w (some ⟨g, 0, none⟩) m cap (fun i => (f i).1) (fun i => (f i).2) := by
  have hc := h.caps
  refine ⟨fun _ => ⟨_, rfl, h.lt, fun i hi => ?_⟩, hc.1, by unfold maxLen at hc; omega⟩
  have := h.cell hi
  rw [add_pl, add_pl, Nat.zero_add]; exact this
/-- a list's cells -/
def flP (L : List PP) : List Value := L.flatMap fun p => [.int .i64 p.1, .int .i64 p.2]
theorem flP_app (l m : List PP) : flP (l ++ m) = flP l ++ flP m := by unfold flP; rw [List.flatMap_append]
theorem flP_len : ∀ L : List PP, (flP L).length = L.length * 2
  | [] => rfl
  | p :: l => by
    have := flP_len l
    show (flP l).length + 1 + 1 = (l.length + 1) * 2
    omega
theorem flP_one : ∀ (L : List PP), ∀ u ∈ flP L, u.oneCell' = true
  | [], u, h => by cases h
  | p :: l, u, h => by
    rcases List.mem_cons.1 h with rfl | h
    · rfl
    · rcases List.mem_cons.1 h with rfl | h
      · rfl
      · exact flP_one l u h
theorem flP_at : ∀ (L : List PP) (i : Nat), i < L.length → (flP L)[i * 2]? = some (.int .i64 (gP L i).1) ∧ (flP L)[i * 2 + 1]? = some (.int .i64 (gP L i).2)
  | [], i, h => by simp at h
  | p :: l, 0, _ => ⟨rfl, rfl⟩
  | p :: l, i + 1, h => by
    have := flP_at l i (by simpa using h)
    have e : (i + 1) * 2 = i * 2 + 1 + 1 := by omega
    rw [e]
    exact this
/-- an owned list of points -/
def OL (w : World) (base : Nat) (v : Value) (L : List PP) : Prop := w.ownsRow base 25 2 v L.length (flP L)
theorem OL.nil (w : World) (base : Nat) : OL w base (.slice none 0 0) [] := ⟨rfl, .inl ⟨rfl, rfl⟩⟩
theorem OL.of {w w' : World} {base : Nat} {v : Value} {L : List PP} (h : OL w base v L) (hb : ∀ g, v.ownBlock = some g → w'.heap[g]? = w.heap[g]?) : OL w' base v L := by
  refine ⟨h.1, h.2.imp id ?_⟩
  rintro ⟨g, cap, cur, rfl, hbg, hh, r⟩
  exact ⟨g, cap, cur, rfl, hbg, (hb g rfl).trans hh, r⟩
theorem OL.lt {w : World} {base : Nat} {v : Value} {L : List PP} (h : OL w base v L) {g : Nat} (hg : v.ownBlock = some g) : base ≤ g ∧ g < w.heap.size := World.ownsRow.lt h g hg
theorem OL.below {w w' : World} {base : Nat} {v : Value} {L : List PP} (h : OL w base v L) (hb : Below w.heap.size w w') : OL w' base v L := h.of fun g hg => hb.block g (h.lt hg).2
theorem OL.base {w : World} {b b' : Nat} {v : Value} {L : List PP} (h : OL w b v L) (hb : b' ≤ b) : OL w b' v L := by
  refine ⟨h.1, h.2.imp id ?_⟩
  rintro ⟨g, cap, cur, rfl, hbg, hh, r⟩
  exact ⟨g, cap, cur, rfl, by omega, hh, r⟩
theorem OL.up {w : World} {b b' : Nat} {v : Value} {L : List PP} (h : OL w b v L) (hb : ∀ g, v.ownBlock = some g → b' ≤ g) : OL w b' v L := by
  refine ⟨h.1, h.2.imp id ?_⟩
  rintro ⟨g, cap, cur, rfl, hbg, hh, r⟩
  exact ⟨g, cap, cur, rfl, hb g rfl, hh, r⟩
theorem OL.row {w : World} {base : Nat} {v : Value} {L : List PP} (h : OL w base v L) : (v = .slice none 0 0 ∧ L = []) ∨ ∃ g cap, v = .slice (some ⟨g, 0, none⟩) L.length cap ∧ base ≤ g ∧ RowP w g cap L.length (gP L) := by
  rcases h.2 with ⟨rfl, hz⟩ | ⟨g, cap, cur, rfl, hb, hg, h1, h2, h3, h4⟩
  · exact .inl ⟨rfl, List.eq_nil_of_length_eq_zero hz⟩
  · refine .inr ⟨g, cap, rfl, hb, cur, hg, h1, h2, h3, fun k hk => ?_⟩
    have := flP_at L k hk
    rw [← h4, List.getElem?_take_of_lt (by omega), List.getElem?_take_of_lt (by omega), Array.getElem?_toList, Array.getElem?_toList] at this
    exact this
theorem flP_ofRow {cur : Array Value} : ∀ (L : List PP), (∀ k, k < L.length → cur[k * 2]? = some (.int .i64 (gP L k).1) ∧ cur[k * 2 + 1]? = some (.int .i64 (gP L k).2)) → cur.toList.take (L.length * 2) = flP L := by
  intro L h
  apply List.ext_getElem?
  intro j
  rcases Nat.lt_or_ge j (L.length * 2) with hj | hj
  · rw [List.getElem?_take_of_lt hj, Array.getElem?_toList]
    have hk : j / 2 < L.length := by omega
    have a := h (j / 2) hk
    have b := flP_at L (j / 2) hk
    rcases Nat.mod_two_eq_zero_or_one j with e | e
    · have e2 : j = j / 2 * 2 := by omega
      rw [e2, a.1, b.1]
    · have e2 : j = j / 2 * 2 + 1 := by omega
      rw [e2, a.2, b.2]
  · rw [List.getElem?_eq_none (by rw [List.length_take]; omega), List.getElem?_eq_none (by rw [flP_len]; omega)]
theorem RowP.ol {w : World} {g cap base : Nat} {L : List PP} (h : RowP w g cap L.length (gP L)) (hb : base ≤ g) : OL w base (.slice (some ⟨g, 0, none⟩) L.length cap) L := by
  obtain ⟨cur, h1, h2, h3, h4, h5⟩ := h
  exact ⟨flP_len L, .inr ⟨g, cap, cur, rfl, hb, h1, h2, h3, h4, flP_ofRow L h5⟩⟩
theorem RowP.list {w : World} {g cap base n : Nat} {f : Nat → PP} (L : List PP) (h : RowP w g cap n f) (hb : base ≤ g) (hl : L.length = n) (e : ∀ k, k < n → f k = gP L k) : OL w base (.slice (some ⟨g, 0, none⟩) n cap) L := by
  subst hl
  exact (h.congr e).ol hb
theorem OL.cut {w : World} {base g n cap j : Nat} {L : List PP} (h : OL w base (.slice (some ⟨g, 0, none⟩) n cap) L) (hj : j ≤ n) : OL w base (.slice (some ⟨g, 0, none⟩) j cap) (L.take j) := by
  rcases h.row with ⟨e, _⟩ | ⟨g', cap', e, hb, hr⟩
  · cases e
  · injection e with e1 e2 e3
    injection e1 with e1
    injection e1 with e1
    subst e1 e2 e3
    refine RowP.list (L.take j) (hr.less hj) hb (by rw [List.length_take]; omega) fun k hk => ?_
    unfold gP
    rw [List.getD_eq_getElem?_getD, List.getD_eq_getElem?_getD, List.getElem?_take_of_lt hk]
theorem OL.pts {w : World} {base : Nat} {v : Value} {L : List PP} (h : OL w base v L) :
    ∃ ao cap, v = .slice ao L.length cap ∧ Pts w ao L.length cap (fun i => (gP L i).1) (fun i => (gP L i).2) := by
  rcases h.row with ⟨rfl, rfl⟩ | ⟨g, cap, rfl, hb, hr⟩
  · exact ⟨none, 0, rfl, ⟨fun h => absurd h (by simp), Nat.le_refl _, by omega⟩⟩
  · exact ⟨_, cap, rfl, hr.pts⟩
theorem info_pt : (Try.prog.info? 25).map (fun i => (i.zero, i.size, i.bytes)) = some (some (.agg #[.int .i64 0, .int .i64 0]), 2, 16) := by kernel_rfl
theorem own_belowT {w w' : World} {base : Nat} {v : Value} {n : Nat} {xs : List Value} {e : TypeId} {sz : Nat} (h : w.ownsRow base e sz v n xs) (hb : Below w.heap.size w w') : w'.ownsRow base e sz v n xs := by
  refine ⟨h.1, h.2.imp id ?_⟩
  rintro ⟨g, cap, cur, rfl, hbg, hg, r⟩
  exact ⟨g, cap, cur, rfl, hbg, (hb.block _ (Array.getElem?_eq_some_iff.1 hg).1).trans hg, r⟩
end Go.Proofs.Ytdcihglpfchcmaa

namespace Go.Proofs.Ytdcihglpfchcmaa
open Go.RowKit

theorem wpList_append_ol {w : World} {ops : Array Oper} {rest : List Oper} {o : Oper} {a : Act} {Q : Exit → Act → World → Prop} (hgd : o.guard = none) (s x : Operand)
    (ho : o.op = .call { callee := .builtin .append, args := #[s, x], argTypes := #[22, 22] })
    (base : Nat) (v : Value) (L : List PP) (hs : a.eval s = v) (px py : Int) (g : Nat) (hx : a.eval x = .slice (some ⟨g, 0, none⟩) 1 1) (c0 : w.cell? ⟨g, 0, none⟩ = some (.int .i64 px)) (c1 : w.cell? ⟨g, 1, none⟩ = some (.int .i64 py))
    (hpb : OL w base v L) (hk : L.length < 10000) (hb : base ≤ w.heap.size)
    (h : ∀ v' w', OL w' base v' (L ++ [(px, py)]) → w.grownBy w' v.ownBlock → wpList Try.prog ops Q rest (a.put o.dst v') w') : wpList Try.prog ops Q (o :: rest) a w := by
  obtain ⟨i0, hi, hz0, hz1, hz2⟩ := info_parts info_pt
  refine wpList_append_own w hgd s x _ ho base 25 i0 (Value.agg #[.int .i64 0, .int .i64 0]) 2 16 Try.underlying22 hi hz0 hz1 hz2 rfl (by decide) v L.length _ hs hpb ⟨g, 0, none⟩ 1 1 [.int .i64 px, .int .i64 py] hx rfl ?_ ?_ (by unfold maxLen; omega) (by omega) hb ?_
  · intro j u hj
    match j, hj with
    | 0, hj => simp at hj; subst hj; rw [add_pl]; exact c0
    | 1, hj => simp at hj; subst hj; rw [add_pl]; exact c1
  · intro u hu; simp at hu; rcases hu with rfl | rfl <;> rfl
  · intro v' w' o1 gr _
    refine h v' w' ?_ gr
    unfold OL
    rw [flP_app, List.length_append]; exact o1
/-- the chain of the first k points -/
def chK (L : List PP) (k : Nat) : List PP := (L.take k).foldl (hpush tP (0, 0)) []
theorem chK_succ (L : List PP) (k : Nat) (h : k < L.length) : chK L (k + 1) = hpush tP (0, 0) (chK L k) (gP L k) := by
  unfold chK
  rw [List.take_add_one, List.getElem?_eq_getElem h, List.foldl_append]
  show hpush _ _ _ L[k] = _
  rw [show gP L k = L[k] by unfold gP; rw [List.getD_eq_getElem?_getD, List.getElem?_eq_getElem h]; rfl]
theorem hpush_mem {o : List PP} {p q : PP} (h : q ∈ hpush tP (0, 0) o p) : q ∈ o ∨ q = p := by
  unfold hpush at h
  rcases List.mem_append.1 h with h | h
  · exact .inl (List.mem_of_mem_take h)
  · exact .inr (List.mem_singleton.1 h)
theorem chK_mem (L : List PP) : ∀ k, k ≤ L.length → ∀ q, q ∈ chK L k → q ∈ L
  | 0, _, q, h => by simp [chK] at h
  | k + 1, hk, q, h => by
    rw [chK_succ L k (by omega)] at h
    rcases hpush_mem h with h | h
    · exact chK_mem L k (by omega) q h
    · rw [h]; exact gP_mem (by omega)
theorem chK_len (L : List PP) : ∀ k, k ≤ L.length → (chK L k).length ≤ k
  | 0, _ => by simp [chK]
  | k + 1, hk => by
    have := chK_len L k (by omega)
    rw [chK_succ L k (by omega)]
    unfold hpush; simp; omega
theorem chK_all (L : List PP) : chK L L.length = hchain tP (0, 0) L := by unfold chK hchain; rw [List.take_length]
theorem hpop_small (o : List PP) (p : PP) : ∀ m, ¬ 1 < m → hpop tP (0, 0) o p m = m
  | 0, _ => rfl
  | 1, _ => by simp [hpop]
  | m + 2, h => by omega
set_option maxRecDepth 100000 in
set_option maxHeartbeats 4000000 in
theorem chain_is (ao : Option Addr) (n cap : Nat) (L : List PP) (w : World) (hn : L.length = n) (h : Pts w ao n cap (fun i => (gP L i).1) (fun i => (gP L i).2)) (hs : n ≤ 4096) (hr : ∀ p, p ∈ L → rpP p = true) :
    Calls Try.prog 19 #[.slice ao n cap] w fun e w' => ∃ v, e = .returned v ∧ OL w' w.heap.size v (hchain tP (0, 0) L) ∧ Below w.heap.size w w' := by
  have hcl := h.capl
  have hcb := h.capb
  have HO := Lib.hid h
  have HR := Lib.hid hr
  have HN := Lib.hid hn
  clear h hr hn
  go_enter Try.func19, Try.ntmps19
  go_wp2_with fail
  go_loopg [3, 9] n (fun gk s3 s9 wr => ∃ k : Nat, s9 = .int .i64 k ∧ k ≤ n ∧ n - k ≤ gk ∧ Hid (OL wr w.heap.size s3 (chK L k)) ∧ Hid (Below w.heap.size w wr))
  case atStart => exact ⟨0, rfl, Nat.zero_le _, by omega, Lib.hid (OL.nil _ _), Lib.hid (Below.refl _ _)⟩
  case round =>
    obtain ⟨k, rfl, hk, hg, HL, HB⟩ := hrel
    obtain ⟨ao2, cp2, rfl, _⟩ := HL.out.pts
    obtain ⟨o, ho⟩ : ∃ o, chK L k = o := ⟨_, rfl⟩
    have HOO := Lib.hid ho
    have HOL : Hid (o.length ≤ 4096) := Lib.hid (by have := chK_len L k (by rw [HN.out]; exact hk); rw [ho] at this; omega)
    rw [ho] at HL ⊢
    clear ho
    by_cases hlt : k < n
    · obtain ⟨a, rfl, p0, p1⟩ := HO.out.at HB.out hlt
      obtain ⟨px, hpx⟩ : ∃ x, (gP L k).1 = x := ⟨_, rfl⟩
      obtain ⟨py, hpy⟩ : ∃ x, (gP L k).2 = x := ⟨_, rfl⟩
      rw [hpx] at p0
      rw [hpy] at p1
      have HPP : Hid (gP L k = (px, py)) := Lib.hid (Prod.ext hpx hpy)
      have HPR : Hid (rpP (px, py) = true) := Lib.hid (by rw [← HPP.out]; exact HR.out _ (gP_mem (by rw [HN.out]; exact hlt)))
      have HMR : Hid (∀ i, i < o.length → rpP (gP o i) = true) := Lib.hid fun i hi => HR.out _ (chK_mem L k (by rw [HN.out]; exact hk) _ (by rw [HOO.out]; exact gP_mem hi))
      obtain ⟨ol, hol⟩ : ∃ l, o.length = l := ⟨_, rfl⟩
      have HOLE := Lib.hid hol
      have hol4 : ol ≤ 4096 := by have := HOL.out; omega
      rw [hol] at HL ⊢
      clear hpx hpy hol
      go_wp2_with fail
      refine name_world ?_
      intro W3 hW3
      have kp : PVar W3 wr.heap.size px py := by rw [hW3]; exact Blk.new wr _ _
      have hbq : Below wr.heap.size wr W3 := by rw [hW3]; exact below_a1 _ _
      clear hW3 p0 p1
      have KP3 := Lib.hid kp
      have OO3 := Lib.hid (HL.out.below hbq)
      have HB3 := Lib.hid (HB.out.trans (hbq.mono HB.out.size))
      obtain ⟨pb, epb⟩ : ∃ b, wr.heap.size = b := ⟨_, rfl⟩
      rw [epb] at KP3 ⊢
      clear kp hbq HL HB epb
      go_wp2_with fail
      go_loopg [3, 6] ol (fun gk2 t3 t6 wr => ∃ (m : Nat) (ao2 : Option Addr) (cp2 : Nat), t6 = .int .i64 m ∧ t3 = .slice ao2 m cp2 ∧ m ≤ ol ∧ m ≤ gk2 ∧ Hid (hpop tP (0, 0) o (px, py) m = hpop tP (0, 0) o (px, py) o.length) ∧ Hid (OL wr w.heap.size (.slice ao2 m cp2) (o.take m)) ∧ Hid (PVar wr pb px py) ∧ Hid (Below w.heap.size w wr))
      case atStart => exact ⟨ol, ao2, cp2, rfl, rfl, Nat.le_refl _, Nat.le_refl _, Lib.hid (by rw [HOLE.out]), Lib.hid (by rw [← HOLE.out, List.take_length, HOLE.out]; exact OO3.out), KP3, HB3⟩
      case round =>
        clear KP3 OO3 HB3
        obtain ⟨m, ao2, cp2, rfl, rfl, hm, hg2, HPOP, OO, KP, HB⟩ := hrel
        by_cases hm1 : 1 < m
        · have hmo : m ≤ o.length := by rw [HOLE.out]; exact hm
          have HMO := Lib.hid hmo
          obtain ⟨g, ecut, hrow⟩ : ∃ g, ao2 = some ⟨g, 0, none⟩ ∧ RowP wr g cp2 (o.take m).length (gP (o.take m)) := by
            rcases OO.out.row with ⟨e, he⟩ | ⟨g, cap, e, _, hr⟩
            · have := congrArg List.length he
              rw [List.length_take, Nat.min_eq_left hmo] at this; simp at this; omega
            · injection e with e1 e2 e3
              subst e3
              exact ⟨g, e1, hr⟩
          subst ecut
          have hlt2 : (o.take m).length = m := by rw [List.length_take]; omega
          rw [hlt2] at hrow
          obtain ⟨i2, hi2⟩ : ∃ i : Nat, m = i + 2 := ⟨m - 2, by omega⟩
          obtain ⟨i1, hi1⟩ : ∃ i : Nat, i = i2 + 1 := ⟨_, rfl⟩
          have gt : ∀ i, i < m → gP (o.take m) i = gP o i := fun i hi => by
            unfold gP; rw [List.getD_eq_getElem?_getD, List.getD_eq_getElem?_getD, List.getElem?_take_of_lt hi]
          have q := hrow.cell (k := i2) (by omega)
          have q' := hrow.cell (k := i1) (by omega)
          rw [gt i2 (by omega)] at q
          rw [gt i1 (by omega)] at q'
          have ra := HMR.out i2 (by omega)
          have rb := HMR.out i1 (by omega)
          have hpop1 : hpop tP (0, 0) o (px, py) m = if tP (gP o i2) (gP o i1) (px, py) = true then hpop tP (0, 0) o (px, py) i1 else m := by
            subst hi2 hi1
            show (if 0 < i2 + 1 ∧ tP (o.getD (i2 + 1 - 1) (0, 0)) (o.getD (i2 + 1) (0, 0)) (px, py) = true then _ else _) = _
            simp [gP]
          obtain ⟨ax, hax⟩ : ∃ x, (gP o i2).1 = x := ⟨_, rfl⟩
          obtain ⟨ay, hay⟩ : ∃ x, (gP o i2).2 = x := ⟨_, rfl⟩
          obtain ⟨bx, hbx⟩ : ∃ x, (gP o i1).1 = x := ⟨_, rfl⟩
          obtain ⟨b_y, hby⟩ : ∃ x, (gP o i1).2 = x := ⟨_, rfl⟩
          obtain ⟨r, hr⟩ : ∃ r, way ax ay bx b_y px py = r := ⟨_, rfl⟩
          have htw : tP (gP o i2) (gP o i1) (px, py) = decide (r ≤ 0) := by
            rw [tP_way ra rb HPR.out]; unfold wyP; rw [hax, hay, hbx, hby, hr]
          rw [htw] at hpop1
          rw [hax, hay] at q
          rw [hbx, hby] at q'
          obtain ⟨q0, q1⟩ := q
          obtain ⟨q2, q3⟩ := q'
          have hrb : -1 ≤ r ∧ r ≤ 1 := by rcases way_cases ax ay bx b_y px py with h | h | h <;> omega
          have HRR := Lib.hid hr
          have HPP1 := Lib.hid hpop1
          have kp0 := KP.out.cell 0
          have kp1 := KP.out.cell 1
          have lp := KP.out.lt
          have lg := hrow.lt
          simp only [List.getElem?_toArray, List.getElem?_cons_zero, List.getElem?_cons_succ] at kp0 kp1
          have hmi : (1 : Int) < (m : Int) := by omega
          have e2 : (m : Int) - 2 = (i2 : Int) := by omega
          have e1 : (m : Int) - 1 = (i1 : Int) := by omega
          have l2 : i2 < m := by omega
          have l1 : i1 < m := by omega
          have hcc := hrow.caps
          unfold maxLen at hcc
          have l3 : i1 ≤ cp2 := by omega
          have l4 : m ≤ cp2 := by omega
          have l5 : cp2 ≤ 9223372036854775807 := by omega
          clear hcc
          have HI := Lib.hid (And.intro hi2 hi1)
          clear hi2 hi1
          clear hrow gt ra rb hax hay hbx hby hr htw hpop1 hlt2
          go_wp2_with fail
          refine wp_region_up wr.heap.size 14 [(true, 0), (true, 1), (true, 2), (true, 3), (true, 4), (true, 5), (true, 6), (true, 7), (true, 8), (true, 9), (true, 10), (true, 11), (true, 12), (true, 13)] (by kernel_rfl) (by kernel_rfl) (fun _ _ d _ _ h => by cases d <;> exact h) ?_
          have hb : Below wr.heap.size wr wr.drew := (Below.refl _ _).drew
          iterate 14
            refine wpS_takeL rfl rfl ?_
            go_big_quiet_step (rfl)
            refine wpQuiet_nil ?_
          refine wpS_nil ?_
          simp only [List.drop_succ_cons, List.drop_zero]
          go_wp2_with fail
          refine (Turn_is ax ay bx b_y px py r HRR.out _).mono ?_
          rintro e W9 ⟨rfl, hn2⟩
          replace hb := hb.trans (hn2.mono hb.size)
          clear hn2
          have KP9 := Lib.hid (KP.out.of hb)
          have OO9 := Lib.hid (OO.out.below hb)
          have HB9 := Lib.hid (HB.out.trans (hb.mono HB.out.size))
          clear hb kp0 kp1 lp lg q0 q1 q2 q3 KP OO HB HRR
          by_cases hr0 : r ≤ 0
          · have HP2 : Hid (hpop tP (0, 0) o (px, py) i1 = hpop tP (0, 0) o (px, py) o.length) := Lib.hid (by rw [← HPOP.out, HPP1.out, if_pos (by simpa using hr0)])
            have OO8 : Hid (OL W9 w.heap.size (.slice (some ⟨g, 0, none⟩) i1 cp2) (o.take i1)) := Lib.hid (by
              have h1 := OO9.out.cut (j := i1) (by omega)
              rw [List.take_take, Nat.min_eq_left (by omega)] at h1
              exact h1)
            clear OO9 HPOP HPP1
            go_wp2_with fail
            go_roundg i1
            case measure => omega
            case rel => exact ⟨i1, _, _, rfl, rfl, by omega, Nat.le_refl _, HP2, OO8, KP9, HB9⟩
          · have HSTOP : Hid (hpop tP (0, 0) o (px, py) m = m) := Lib.hid (by rw [HPP1.out, if_neg (by simpa using hr0)])
            have kp0 := KP9.out.cell 0
            have kp1 := KP9.out.cell 1
            have lp9 := KP9.out.lt
            simp only [List.getElem?_toArray, List.getElem?_cons_zero, List.getElem?_cons_succ] at kp0 kp1
            go_wp2_with (at_builtin; go_loud (refine wpList_append_ol rfl _ _ rfl w.heap.size _ (o.take m) rfl px py W9.heap.size rfl ?c0 ?c1 (OL.below OO9.out ?c2) ?c3 ?c4 ?_))
            case c0 => exact (Blk.new W9 _ _).cell 0
            case c1 => exact (Blk.new W9 _ _).cell 1
            case c2 => exact below_a1 _ _
            case c3 => have := HOL.out; rw [List.length_take]; omega
            case c4 => have := HB9.out.size; have h8 : W9.heap.size = W9.heap.size := rfl; simp; omega
            intro v1 W5 hF hn
            have hbz : Below w.heap.size W9 W5 := ((below_a1 W9 _).mono (by have := HB9.out.size; omega)).trans ((Below.refl _ _).grown hn (by have := HB9.out.size; have h8 : W9.heap.size = W9.heap.size := rfl; simp; omega) (fun j hj => (OO9.out.lt hj).1))
            have HF : Hid (OL W5 w.heap.size v1 (chK L (k + 1))) := by
              refine Lib.hid ?_
              rw [chK_succ L k (by rw [HN.out]; exact hlt), HOO.out, HPP.out]
              unfold hpush
              rw [← HPOP.out, HSTOP.out]
              exact hF
            have HB5 := Lib.hid (HB9.out.trans hbz)
            clear hF hn hbz KP9 OO9 HB9 kp0 kp1 lp9
            go_wp2_with fail
            go_roundg (n - (k + 1))
            case measure => omega
            case rel => exact ⟨k + 1, by norm_cast, by omega, Nat.le_refl _, HF, HB5⟩
        · rcases (show m = 0 ∨ m = 1 by omega) with rfl | rfl
          · have HSTOP : Hid (hpop tP (0, 0) o (px, py) 0 = 0) := Lib.hid (hpop_small o (px, py) 0 (by omega))
            have kp0 := KP.out.cell 0
            have kp1 := KP.out.cell 1
            have lp := KP.out.lt
            simp only [List.getElem?_toArray, List.getElem?_cons_zero, List.getElem?_cons_succ] at kp0 kp1
            go_wp2_with fail
            refine wp_region_up wr.heap.size 14 [(true, 0), (true, 1), (true, 2), (true, 3), (true, 4), (true, 5), (true, 6), (true, 7), (true, 8), (true, 9), (true, 10), (true, 11), (true, 12), (true, 13)] (by kernel_rfl) (by kernel_rfl) (fun _ _ d _ _ h => by cases d <;> exact h) ?_
            have hb : Below wr.heap.size wr wr.drew := (Below.refl _ _).drew
            iterate 14
              refine wpS_takeL rfl rfl ?_
              go_big_quiet_step (rfl)
              refine wpQuiet_nil ?_
            refine wpS_nil ?_
            simp only [List.drop_succ_cons, List.drop_zero]
            have KP9 := Lib.hid (KP.out.of hb)
            have OO9 := Lib.hid (OO.out.below hb)
            have HB9 := Lib.hid (HB.out.trans (hb.mono HB.out.size))
            clear hb kp0 kp1 lp KP OO HB
            have kp0 := KP9.out.cell 0
            have kp1 := KP9.out.cell 1
            have lp9 := KP9.out.lt
            simp only [List.getElem?_toArray, List.getElem?_cons_zero, List.getElem?_cons_succ] at kp0 kp1
            go_wp2_with (at_builtin; go_loud (refine wpList_append_ol rfl _ _ rfl w.heap.size _ (o.take 0) rfl px py wr.drew.heap.size rfl ?c0 ?c1 (OL.below OO9.out ?c2) ?c3 ?c4 ?_))
            case c0 => exact (Blk.new wr.drew _ _).cell 0
            case c1 => exact (Blk.new wr.drew _ _).cell 1
            case c2 => exact below_a1 _ _
            case c3 => have := HOL.out; rw [List.length_take]; omega
            case c4 => have := HB9.out.size; have h8 : wr.drew.heap.size = wr.heap.size := rfl; simp; omega
            intro v1 W5 hF hn
            have hbz : Below w.heap.size wr.drew W5 := ((below_a1 wr.drew _).mono (by have := HB9.out.size; omega)).trans ((Below.refl _ _).grown hn (by have := HB9.out.size; have h8 : wr.drew.heap.size = wr.heap.size := rfl; simp; omega) (fun j hj => (OO9.out.lt hj).1))
            have HF : Hid (OL W5 w.heap.size v1 (chK L (k + 1))) := by
              refine Lib.hid ?_
              rw [chK_succ L k (by rw [HN.out]; exact hlt), HOO.out, HPP.out]
              unfold hpush
              rw [← HPOP.out, HSTOP.out]
              exact hF
            have HB5 := Lib.hid (HB9.out.trans hbz)
            clear hF hn hbz KP9 OO9 HB9 kp0 kp1 lp9
            go_wp2_with fail
            go_roundg (n - (k + 1))
            case measure => omega
            case rel => exact ⟨k + 1, by norm_cast, by omega, Nat.le_refl _, HF, HB5⟩
          · have HSTOP : Hid (hpop tP (0, 0) o (px, py) 1 = 1) := Lib.hid (hpop_small o (px, py) 1 (by omega))
            have kp0 := KP.out.cell 0
            have kp1 := KP.out.cell 1
            have lp := KP.out.lt
            simp only [List.getElem?_toArray, List.getElem?_cons_zero, List.getElem?_cons_succ] at kp0 kp1
            go_wp2_with fail
            refine wp_region_up wr.heap.size 14 [(true, 0), (true, 1), (true, 2), (true, 3), (true, 4), (true, 5), (true, 6), (true, 7), (true, 8), (true, 9), (true, 10), (true, 11), (true, 12), (true, 13)] (by kernel_rfl) (by kernel_rfl) (fun _ _ d _ _ h => by cases d <;> exact h) ?_
            have hb : Below wr.heap.size wr wr.drew := (Below.refl _ _).drew
            iterate 14
              refine wpS_takeL rfl rfl ?_
              go_big_quiet_step (rfl)
              refine wpQuiet_nil ?_
            refine wpS_nil ?_
            simp only [List.drop_succ_cons, List.drop_zero]
            have KP9 := Lib.hid (KP.out.of hb)
            have OO9 := Lib.hid (OO.out.below hb)
            have HB9 := Lib.hid (HB.out.trans (hb.mono HB.out.size))
            clear hb kp0 kp1 lp KP OO HB
            have kp0 := KP9.out.cell 0
            have kp1 := KP9.out.cell 1
            have lp9 := KP9.out.lt
            simp only [List.getElem?_toArray, List.getElem?_cons_zero, List.getElem?_cons_succ] at kp0 kp1
            go_wp2_with (at_builtin; go_loud (refine wpList_append_ol rfl _ _ rfl w.heap.size _ (o.take 1) rfl px py wr.drew.heap.size rfl ?c0 ?c1 (OL.below OO9.out ?c2) ?c3 ?c4 ?_))
            case c0 => exact (Blk.new wr.drew _ _).cell 0
            case c1 => exact (Blk.new wr.drew _ _).cell 1
            case c2 => exact below_a1 _ _
            case c3 => have := HOL.out; rw [List.length_take]; omega
            case c4 => have := HB9.out.size; have h8 : wr.drew.heap.size = wr.heap.size := rfl; simp; omega
            intro v1 W5 hF hn
            have hbz : Below w.heap.size wr.drew W5 := ((below_a1 wr.drew _).mono (by have := HB9.out.size; omega)).trans ((Below.refl _ _).grown hn (by have := HB9.out.size; have h8 : wr.drew.heap.size = wr.heap.size := rfl; simp; omega) (fun j hj => (OO9.out.lt hj).1))
            have HF : Hid (OL W5 w.heap.size v1 (chK L (k + 1))) := by
              refine Lib.hid ?_
              rw [chK_succ L k (by rw [HN.out]; exact hlt), HOO.out, HPP.out]
              unfold hpush
              rw [← HPOP.out, HSTOP.out]
              exact hF
            have HB5 := Lib.hid (HB9.out.trans hbz)
            clear hF hn hbz KP9 OO9 HB9 kp0 kp1 lp9
            go_wp2_with fail
            go_roundg (n - (k + 1))
            case measure => omega
            case rel => exact ⟨k + 1, by norm_cast, by omega, Nat.le_refl _, HF, HB5⟩
    · have hkn : k = n := by omega
      have HF : Hid (OL wr w.heap.size (.slice ao2 o.length cp2) (hchain tP (0, 0) L)) := Lib.hid (by rw [← chK_all L, HN.out, ← hkn, HOO.out]; exact HL.out)
      clear HL HR HN
      go_wp2_with fail
      go_ret
      exact ⟨_, rfl, HF.out, HB.out⟩
end Go.Proofs.Ytdcihglpfchcmaa

namespace Go.Proofs.Ytdcihglpfchcmaa
open Go.RowKit

/-- two points alike? -/
def eqP (ax ay bx b_y : Int) : Bool := ax == bx && ay == b_y
theorem run_eqP0 (a b c d : Int) (w : World) :
    (Op.equalIn 10000 25 (.agg #[.int .i64 a, .int .i64 b]) (.agg #[.int .i64 c, .int .i64 d])).run Try.prog w = .ok (eqP a b c d) w := by
  unfold eqP
  by_cases h0 : a = c <;> by_cases h1 : b = d
  all_goals go_simp
@[go_sem] theorem run_eqlP (a b c d : Int) (w : World) :
    (binOp .eql 25 (.agg #[.int .i64 a, .int .i64 b]) (.agg #[.int .i64 c, .int .i64 d])).run Try.prog w = .ok (.bool (eqP a b c d)) w := by
  rw [run_eql_struct, run_eqP0]; rfl
@[go_sem] theorem run_neqP (a b c d : Int) (w : World) :
    (binOp .neq 25 (.agg #[.int .i64 a, .int .i64 b]) (.agg #[.int .i64 c, .int .i64 d])).run Try.prog w = .ok (.bool (!eqP a b c d)) w := by
  rw [run_neq_struct, run_eqP0]; rfl
theorem eqP_iff (p q : PP) : eqP p.1 p.2 q.1 q.2 = true ↔ p = q := by
  unfold eqP
  constructor
  · intro h; simp at h; exact Prod.ext h.1 h.2
  · intro h; subst h; simp
theorem eqP_cases {ax ay bx b_y : Int} {b : Bool} (h : eqP ax ay bx b_y = b) : (ax = bx ∧ ay = b_y ∧ b = true) ∨ (ax ≠ bx ∧ b = false) ∨ (ax = bx ∧ ay ≠ b_y ∧ b = false) := by
  subst h
  unfold eqP
  by_cases h0 : ax = bx <;> by_cases h1 : ay = b_y <;> simp [h0, h1]
/-- a clear behind place k -/
theorem RowP.clear {w : World} {g cap n k : Nat} {f : Nat → PP} (h : RowP w g cap n f) (hk : k < n) :
    ∃ W', (∀ ty c, (Builtin.clear_ #[22] ty #[.slice (some ⟨g, k * 2, none⟩) (n - k) c]).run Try.prog w = .ok (.tuple #[]) W') ∧ RowP W' g cap k f ∧ w.grownBy W' (some g) := by
  obtain ⟨cur, h1, h2, h3, h4, h5⟩ := h
  obtain ⟨i0, hi, hz0, hz1, hz2⟩ := info_parts info_pt
  have hcl : cur.toList.length = cap * 2 := by rw [Array.length_toList]; exact h4
  obtain ⟨Z, hZ⟩ : ∃ Z, (Builtin.zeroCells (Value.agg #[.int .i64 0, .int .i64 0]).cells (n - k)).toList = Z := ⟨_, rfl⟩
  have hZl : Z.length = (n - k) * 2 := by rw [← hZ, Array.length_toList, size_zeroCells]; rfl
  refine ⟨w.setRow g (cur.toList.take (k * 2) ++ Z ++ cur.toList.drop (k * 2 + (n - k) * 2)).toArray, fun ty c => ?_, ⟨_, setRow_heap w g cur _ _ _ h1, by omega, h3, ?_, fun j hj => ?_⟩, rfl, rfl, rfl, by simp, fun b hb hne => ?_⟩
  · have h := run_clear_rowk (P := Try.prog) w 22 25 ty i0 (Value.agg #[.int .i64 0, .int .i64 0]) Try.underlying22 hi hz0 g (k * 2) (n - k) c cur _ h1 (by omega) (by show k * 2 + (n - k) * 2 ≤ _; omega) (by intro v hv; simp [Value.cells] at hv; rcases hv with rfl | rfl <;> rfl)
    rw [hZ] at h
    exact h
  · rw [List.size_toArray, List.length_append, List.length_append, List.length_take, List.length_drop, hZl, hcl]; omega
  · have e : ∀ i, i < k * 2 → (cur.toList.take (k * 2) ++ Z ++ cur.toList.drop (k * 2 + (n - k) * 2)).toArray[i]? = cur[i]? := fun i hi => by
      rw [List.getElem?_toArray, List.append_assoc, List.getElem?_append_left (by rw [List.length_take]; omega), List.getElem?_take_of_lt hi, Array.getElem?_toList]
    rw [e _ (by omega), e _ (by omega)]
    exact h5 j (by omega)
  · exact setRow_other w g b _ (fun e => hne (by rw [e]))
theorem gP_take {L : List PP} {k j : Nat} (h : j < k) : gP (L.take k) j = gP L j := by
  unfold gP; rw [List.getD_eq_getElem?_getD, List.getD_eq_getElem?_getD, List.getElem?_take_of_lt h]
theorem gP_snoc (l : List PP) (p : PP) (j : Nat) (h : j < l.length + 1) : gP (l ++ [p]) j = if j = l.length then p else gP l j := by
  unfold gP
  rw [List.getD_eq_getElem?_getD, List.getD_eq_getElem?_getD]
  by_cases e : j = l.length
  · rw [if_pos e, e, List.getElem?_append_right (Nat.le_refl _), Nat.sub_self]; rfl
  · rw [if_neg e, List.getElem?_append_left (by omega)]
set_option maxRecDepth 100000 in
set_option maxHeartbeats 4000000 in
theorem Compact_is (w : World) (g cap n : Nat) (L : List PP) (hL : L.length = n) (h : RowP w g cap n (gP L)) (hn : n ≤ 4096) :
    Calls Try.prog 16 #[.slice (some ⟨g, 0, none⟩) n cap] w fun e w' => e = .returned (.slice (some ⟨g, 0, none⟩) (cpt L n).length cap) ∧ RowP w' g cap (cpt L n).length (gP (cpt L n)) ∧ w.grownBy w' (some g) := by
  have hmc : n ≤ cap ∧ cap ≤ 9223372036854775807 := by have := h.caps; unfold maxLen at this; omega
  obtain ⟨hmc1, hmc2⟩ := hmc
  have HW0 := Lib.hid h
  have HL := Lib.hid hL
  clear h hL
  by_cases hn2 : n < 2
  · have e1 : cpt L n = L.take n := cpt_take L n (by rw [HL.out]; exact Nat.le_refl _) (fun k h0 h1 => by omega)
    have e2 : L.take n = L := by rw [← HL.out, List.take_length]
    rw [e1, e2, HL.out]
    have hni : (n : Int) < 2 := by omega
    obtain rfl | rfl : n = 0 ∨ n = 1 := by omega
    all_goals
      clear hni e1 e2
      go_enter Try.func16, Try.ntmps16
      go_wp2
      go_ret
      exact ⟨rfl, HW0.out, grownBy.refl _ _⟩
  · have hni : ¬ (n : Int) < 2 := by omega
    go_enter Try.func16, Try.ntmps16
    go_wp2_with fail
    go_loopg [3] n (fun gk s3 wr => ∃ k : Nat, s3 = .int .i64 k ∧ 1 ≤ k ∧ k ≤ n ∧ n - k ≤ gk ∧ Hid (∀ j, 0 < j → j < k → gP L j ≠ gP L (j - 1)) ∧ Hid (RowP wr g cap n (gP L)) ∧ Hid (w.grownBy wr (some g)))
    case atStart => exact ⟨1, rfl, by omega, by omega, by omega, Lib.hid (fun j h0 h1 => by omega), HW0, Lib.hid (grownBy.refl _ _)⟩
    case round =>
      clear HW0
      obtain ⟨k, rfl, hk1, hk, hg, HD, HW, HG⟩ := hrel
      by_cases hlt : k < n
      · obtain ⟨k0, hk0⟩ : ∃ k0, k = k0 + 1 := ⟨k - 1, by omega⟩
        have p := HW.out.cell hlt
        have q := HW.out.cell (k := k0) (by omega)
        obtain ⟨px, hpx⟩ : ∃ x, (gP L k).1 = x := ⟨_, rfl⟩
        obtain ⟨py, hpy⟩ : ∃ x, (gP L k).2 = x := ⟨_, rfl⟩
        obtain ⟨qx, hqx⟩ : ∃ x, (gP L k0).1 = x := ⟨_, rfl⟩
        obtain ⟨qy, hqy⟩ : ∃ x, (gP L k0).2 = x := ⟨_, rfl⟩
        obtain ⟨b, hb0⟩ : ∃ b, eqP px py qx qy = b := ⟨_, rfl⟩
        have hbe : b = true ↔ gP L k = gP L (k - 1) := by
          rw [show k - 1 = k0 by omega, ← eqP_iff, hpx, hpy, hqx, hqy, hb0]
        rw [hpx, hpy] at p
        rw [hqx, hqy] at q
        obtain ⟨p0, p1⟩ := p
        obtain ⟨q0, q1⟩ := q
        have e1 : (k : Int) - 1 = (k0 : Int) := by omega
        have l0 : k0 < n := by omega
        have lg := HW.out.lt
        have HK0 := Lib.hid hk0
        have HBE := Lib.hid hbe
        clear hpx hpy hqx hqy hk0 hbe
        go_wp2_with fail
        refine wp_region_up wr.heap.size 9 [(true, 0), (true, 1), (true, 2), (true, 3), (true, 4), (true, 5), (true, 6), (true, 7), (true, 8)] (by kernel_rfl) (by kernel_rfl) (fun _ _ d _ _ h => by cases d <;> exact h) ?_
        have hb : Below wr.heap.size wr wr.drew := (Below.refl _ _).drew
        iterate 9
          refine wpS_takeL rfl rfl ?_
          go_big_quiet_step (rfl)
          refine wpQuiet_nil ?_
        refine wpS_nil ?_
        simp only [List.drop_succ_cons, List.drop_zero]
        have HW1 := Lib.hid (HW.out.below hb)
        have HG1 := Lib.hid (grownBy.belowT HG.out hb)
        clear hb lg HW HG p0 p1 q0 q1
        rcases eqP_cases hb0 with ⟨rfl, rfl, rfl⟩ | ⟨hne, rfl⟩ | ⟨rfl, hne, rfl⟩
        · have hs : cpt L (k + 1) = L.take k := by
            show (if 0 < k ∧ gP L k = gP L (k - 1) then cpt L k else _) = _
            rw [if_pos ⟨by omega, HBE.out.1 rfl⟩, cpt_take L k (by rw [HL.out]; exact hk) HD.out]
          have hkc : k ≤ cap := by omega
          have H0 : Hid (k = (cpt L (k + 1)).length) := Lib.hid (by rw [hs, List.length_take, HL.out]; omega)
          have H1 : Hid (∀ j, j < k → gP L j = gP (cpt L (k + 1)) j) := Lib.hid fun j hj => by rw [hs, gP_take hj]
          clear HD HBE HK0 hs l0 e1
          go_wp2_with fail
          go_loopg [3, 5] n (fun gk2 s3 s5 wr2 => ∃ (i k2 : Nat) (M : Nat → PP), s3 = .int .i64 i ∧ s5 = .int .i64 k2 ∧ 1 ≤ k2 ∧ k2 ≤ n - k ∧ n - k - k2 ≤ gk2 ∧ 1 ≤ i ∧ i < k + k2 ∧ Hid (i = (cpt L (k + k2)).length) ∧ Hid (∀ j, j < i → M j = gP (cpt L (k + k2)) j) ∧ Hid (∀ j, i ≤ j → M j = gP L j) ∧ Hid (RowP wr2 g cap n M) ∧ Hid (w.grownBy wr2 (some g)))
          case atStart => exact ⟨k, 1, gP L, rfl, rfl, by omega, by omega, by omega, by omega, by omega, H0, H1, Lib.hid fun j _ => rfl, HW1, HG1⟩
          case round =>
            clear HW1 HG1 H0 H1
            obtain ⟨i, k2, M, rfl, rfl, hk2, hk2n, hg2, hi1, hik, H0, H1, H2, HW, HG⟩ := hrel
            have hin : i < n := by omega
            by_cases hlt2 : k2 < n - k
            · obtain ⟨k3, hk3⟩ : ∃ k3, k2 = k3 + 1 := ⟨k2 - 1, by omega⟩
              have p := HW.out.cell (k := k + k2) (by omega)
              have q := HW.out.cell (k := k + k3) (by omega)
              rw [H2.out _ (by omega), Nat.add_mul] at p
              rw [H2.out _ (by omega), Nat.add_mul] at q
              obtain ⟨px, hpx⟩ : ∃ x, (gP L (k + k2)).1 = x := ⟨_, rfl⟩
              obtain ⟨py, hpy⟩ : ∃ x, (gP L (k + k2)).2 = x := ⟨_, rfl⟩
              obtain ⟨qx, hqx⟩ : ∃ x, (gP L (k + k3)).1 = x := ⟨_, rfl⟩
              obtain ⟨qy, hqy⟩ : ∃ x, (gP L (k + k3)).2 = x := ⟨_, rfl⟩
              obtain ⟨b, hb0⟩ : ∃ b, eqP px py qx qy = b := ⟨_, rfl⟩
              have hbe : b = true ↔ gP L (k + k2) = gP L (k + k2 - 1) := by
                rw [show k + k2 - 1 = k + k3 by omega, ← eqP_iff, hpx, hpy, hqx, hqy, hb0]
              have HP : Hid (gP L (k + k2) = (px, py)) := Lib.hid (Prod.ext hpx hpy)
              rw [hpx, hpy] at p
              rw [hqx, hqy] at q
              obtain ⟨p0, p1⟩ := p
              obtain ⟨q0, q1⟩ := q
              have e1 : (k2 : Int) - 1 = (k3 : Int) := by omega
              have l0 : k3 < n - k := by omega
              have lg := HW.out.lt
              have hcs : cpt L (k + (k2 + 1)) = if b = true then cpt L (k + k2) else cpt L (k + k2) ++ [(px, py)] := by
                show (if 0 < k + k2 ∧ gP L (k + k2) = gP L (k + k2 - 1) then cpt L (k + k2) else cpt L (k + k2) ++ [gP L (k + k2)]) = _
                rw [HP.out]
                cases b
                · rw [if_neg (fun h => by have := hbe.2 (by rw [HP.out]; exact h.2); cases this)]; rfl
                · rw [if_pos ⟨by omega, by rw [← HP.out]; exact hbe.1 rfl⟩]; rfl
              have HCS := Lib.hid hcs
              have HK3 := Lib.hid hk3
              clear hpx hpy hqx hqy hk3 hbe hcs
              go_wp2_with fail
              refine wp_region_up wr.heap.size 9 [(true, 0), (true, 1), (true, 2), (true, 3), (true, 4), (true, 5), (true, 6), (true, 7), (true, 8)] (by kernel_rfl) (by kernel_rfl) (fun _ _ d _ _ h => by cases d <;> exact h) ?_
              have hb : Below wr.heap.size wr wr.drew := (Below.refl _ _).drew
              iterate 9
                refine wpS_takeL rfl rfl ?_
                go_big_quiet_step (rfl)
                refine wpQuiet_nil ?_
              refine wpS_nil ?_
              simp only [List.drop_succ_cons, List.drop_zero]
              have HW1 := Lib.hid (HW.out.below hb)
              have HG1 := Lib.hid (grownBy.belowT HG.out hb)
              clear hb HW HG q0 q1
              rcases eqP_cases hb0 with ⟨rfl, rfl, rfl⟩ | ⟨hne, rfl⟩ | ⟨rfl, hne, rfl⟩
              · have H0' : Hid (i = (cpt L (k + (k2 + 1))).length) := Lib.hid (by rw [HCS.out, if_pos rfl]; exact H0.out)
                have H1' : Hid (∀ j, j < i → M j = gP (cpt L (k + (k2 + 1))) j) := Lib.hid fun j hj => by
                  rw [HCS.out, if_pos rfl]; exact H1.out j hj
                clear H0 H1 HCS HP HK3 l0 e1 p0 p1 lg
                go_wp2_with fail
                go_roundg (n - k - (k2 + 1))
                case measure => omega
                case rel => exact ⟨i, k2 + 1, M, rfl, by norm_cast, by omega, by omega, Nat.le_refl _, by omega, by omega, H0', H1', H2, HW1, HG1⟩
              · have f0 : wr.frozen? ⟨g, i * 2, none⟩ = false := HW1.out.free (i * 2)
                have f1 : wr.frozen? ⟨g, i * 2 + 1, none⟩ = false := HW1.out.free (i * 2 + 1)
                have cc : wr.cell? ⟨g, i * 2, none⟩ = some (.int .i64 (M i).1) ∧ wr.cell? ⟨g, i * 2 + 1, none⟩ = some (.int .i64 (M i).2) := HW1.out.cell hin
                obtain ⟨c0, c1⟩ := cc
                have HW2 : Hid (RowP ((wr.drew.setCell ⟨g, i * 2, none⟩ (.int .i64 px)).setCell ⟨g, i * 2 + 1, none⟩ (.int .i64 py)) g cap n (fun j => if j = i then (px, py) else M j)) := Lib.hid (HW1.out.set hin px py)
                have HG2 : Hid (w.grownBy ((wr.drew.setCell ⟨g, i * 2, none⟩ (.int .i64 px)).setCell ⟨g, i * 2 + 1, none⟩ (.int .i64 py)) (some g)) := Lib.hid (grownBy.trans HG1.out (grownP _ _ _ _ _ _))
                have H0' : Hid (i + 1 = (cpt L (k + (k2 + 1))).length) := Lib.hid (by rw [HCS.out, if_neg Bool.false_ne_true, List.length_append, ← H0.out]; rfl)
                have H1' : Hid (∀ j, j < i + 1 → (if j = i then (px, py) else M j) = gP (cpt L (k + (k2 + 1))) j) := Lib.hid fun j hj => by
                  rw [HCS.out, if_neg Bool.false_ne_true, gP_snoc _ _ _ (by rw [← H0.out]; exact hj), ← H0.out]
                  by_cases e : j = i
                  · rw [if_pos e, if_pos e]
                  · rw [if_neg e, if_neg e]; exact H1.out j (by omega)
                have H2' : Hid (∀ j, i + 1 ≤ j → (if j = i then (px, py) else M j) = gP L j) := Lib.hid fun j hj => by
                  rw [if_neg (by omega)]; exact H2.out j (by omega)
                clear HW1 HG1 H0 H1 H2 HCS HP HK3 l0 e1
                go_wp2_with fail
                go_roundg (n - k - (k2 + 1))
                case measure => omega
                case rel => exact ⟨i + 1, k2 + 1, _, by norm_cast, by norm_cast, by omega, by omega, Nat.le_refl _, by omega, by omega, H0', H1', H2', HW2, HG2⟩
              · have f0 : wr.frozen? ⟨g, i * 2, none⟩ = false := HW1.out.free (i * 2)
                have f1 : wr.frozen? ⟨g, i * 2 + 1, none⟩ = false := HW1.out.free (i * 2 + 1)
                have cc : wr.cell? ⟨g, i * 2, none⟩ = some (.int .i64 (M i).1) ∧ wr.cell? ⟨g, i * 2 + 1, none⟩ = some (.int .i64 (M i).2) := HW1.out.cell hin
                obtain ⟨c0, c1⟩ := cc
                have HW2 : Hid (RowP ((wr.drew.setCell ⟨g, i * 2, none⟩ (.int .i64 px)).setCell ⟨g, i * 2 + 1, none⟩ (.int .i64 py)) g cap n (fun j => if j = i then (px, py) else M j)) := Lib.hid (HW1.out.set hin px py)
                have HG2 : Hid (w.grownBy ((wr.drew.setCell ⟨g, i * 2, none⟩ (.int .i64 px)).setCell ⟨g, i * 2 + 1, none⟩ (.int .i64 py)) (some g)) := Lib.hid (grownBy.trans HG1.out (grownP _ _ _ _ _ _))
                have H0' : Hid (i + 1 = (cpt L (k + (k2 + 1))).length) := Lib.hid (by rw [HCS.out, if_neg Bool.false_ne_true, List.length_append, ← H0.out]; rfl)
                have H1' : Hid (∀ j, j < i + 1 → (if j = i then (px, py) else M j) = gP (cpt L (k + (k2 + 1))) j) := Lib.hid fun j hj => by
                  rw [HCS.out, if_neg Bool.false_ne_true, gP_snoc _ _ _ (by rw [← H0.out]; exact hj), ← H0.out]
                  by_cases e : j = i
                  · rw [if_pos e, if_pos e]
                  · rw [if_neg e, if_neg e]; exact H1.out j (by omega)
                have H2' : Hid (∀ j, i + 1 ≤ j → (if j = i then (px, py) else M j) = gP L j) := Lib.hid fun j hj => by
                  rw [if_neg (by omega)]; exact H2.out j (by omega)
                clear HW1 HG1 H0 H1 H2 HCS HP HK3 l0 e1
                go_wp2_with fail
                go_roundg (n - k - (k2 + 1))
                case measure => omega
                case rel => exact ⟨i + 1, k2 + 1, _, by norm_cast, by norm_cast, by omega, by omega, Nat.le_refl _, by omega, by omega, H0', H1', H2', HW2, HG2⟩
            · have hkn : k + k2 = n := by omega
              obtain ⟨W', hcl, hrow, hgr⟩ := HW.out.clear hin
              have hic : i ≤ cap := by omega
              have HR' : Hid (RowP W' g cap (cpt L n).length (gP (cpt L n))) := by
                refine Lib.hid ?_
                have h0 := H0.out
                have h1 := H1.out
                rw [hkn] at h0 h1
                rw [← h0]; exact hrow.congr h1
              have HG' := Lib.hid (grownBy.trans HG.out hgr)
              have HE : Hid ((cpt L n).length = i) := Lib.hid (by have h0 := H0.out; rw [hkn] at h0; exact h0.symm)
              clear HW HG hrow hgr H0 H1 H2
              go_wp2_with (at_builtin; go_loud (refine wpList_clear_run rfl _ _ rfl _ rfl (hcl _ _) ?_))
              go_ret
              rw [HE.out] at HR' ⊢
              exact ⟨rfl, HR'.out, HG'.out⟩
        · have HD1 : Hid (∀ j, 0 < j → j < k + 1 → gP L j ≠ gP L (j - 1)) := Lib.hid fun j h0 h1 => by
            rcases Nat.lt_or_ge j k with h2 | h2
            · exact HD.out j h0 h2
            · rw [show j = k by omega]; exact fun e => by have := HBE.out.2 e; cases this
          clear HD HBE HK0
          go_wp2_with fail
          go_roundg (n - (k + 1))
          case measure => omega
          case rel => exact ⟨k + 1, by norm_cast, by omega, by omega, Nat.le_refl _, HD1, HW1, HG1⟩
        · have HD1 : Hid (∀ j, 0 < j → j < k + 1 → gP L j ≠ gP L (j - 1)) := Lib.hid fun j h0 h1 => by
            rcases Nat.lt_or_ge j k with h2 | h2
            · exact HD.out j h0 h2
            · rw [show j = k by omega]; exact fun e => by have := HBE.out.2 e; cases this
          clear HD HBE HK0
          go_wp2_with fail
          go_roundg (n - (k + 1))
          case measure => omega
          case rel => exact ⟨k + 1, by norm_cast, by omega, by omega, Nat.le_refl _, HD1, HW1, HG1⟩
      · have hkn : k = n := by omega
        subst hkn
        have e1 : cpt L k = L := by rw [cpt_take L k (by rw [HL.out]; exact Nat.le_refl _) HD.out, ← HL.out, List.take_length]
        have HE1 := Lib.hid e1
        clear HD e1
        go_wp2_with fail
        go_ret
        rw [HE1.out, HL.out]
        exact ⟨rfl, HW.out, HG.out⟩
end Go.Proofs.Ytdcihglpfchcmaa

namespace Go.Proofs.Ytdcihglpfchcmaa
open Go.RowKit Go.Shelf

def Try.sortP_ren : Go.Shelf.Ren := ⟨fun | 6 => 33 | 15 => 48 | 14 => 47 | 28 => 69 | 29 => 70 | 20 => 61 | 21 => 62 | 22 => 63 | 23 => 64 | 24 => 65 | 25 => 66 | 26 => 67 | 27 => 68 | 46 => 74 | 47 => 75 | 48 => 76 | 49 => 77 | 50 => 78 | 57 => 79 | n => n, fun | 22 => 22 | 24 => 25 | 25 => 45 | 3 => 3 | 39 => 75 | 0 => 0 | 53 => 96 | 55 => 52 | 4 => 4 | 46 => 89 | 45 => 88 | 50 => 93 | 5 => 5 | 9 => 9 | 66 => 99 | 70 => 103 | 76 => 105 | 77 => 106 | n => n, fun n => n⟩
theorem Try.sortP : Go.Proofs.SlLaysF0.n6 Try.prog Try.sortP_ren where
  mixed := by kernel_rfl
  f6 := ⟨ "slices.SortFunc[[]groma/point.Point,groma/point.Point]", by decide, Try.func33.trans (congrArg some (by kernel_rfl))⟩
  f14 := ⟨ "slices.pdqsortCmpFunc[groma/point.Point]", by decide, Try.func47.trans (congrArg some (by kernel_rfl))⟩
  f15 := Try.func48.trans (congrArg some (by kernel_rfl))
  f20 := ⟨ "slices.insertionSortCmpFunc[groma/point.Point]", by decide, Try.func61.trans (congrArg some (by kernel_rfl))⟩
  f21 := ⟨ "slices.heapSortCmpFunc[groma/point.Point]", by decide, Try.func62.trans (congrArg some (by kernel_rfl))⟩
  f22 := ⟨ "slices.breakPatternsCmpFunc[groma/point.Point]", by decide, Try.func63.trans (congrArg some (by kernel_rfl))⟩
  f23 := ⟨ "slices.choosePivotCmpFunc[groma/point.Point]", by decide, Try.func64.trans (congrArg some (by kernel_rfl))⟩
  f24 := ⟨ "slices.reverseRangeCmpFunc[groma/point.Point]", by decide, Try.func65.trans (congrArg some (by kernel_rfl))⟩
  f25 := ⟨ "slices.partialInsertionSortCmpFunc[groma/point.Point]", by decide, Try.func66.trans (congrArg some (by kernel_rfl))⟩
  f26 := ⟨ "slices.partitionEqualCmpFunc[groma/point.Point]", by decide, Try.func67.trans (congrArg some (by kernel_rfl))⟩
  f27 := ⟨ "slices.partitionCmpFunc[groma/point.Point]", by decide, Try.func68.trans (congrArg some (by kernel_rfl))⟩
  f28 := Try.func69.trans (congrArg some (by kernel_rfl))
  f29 := Try.func70.trans (congrArg some (by kernel_rfl))
  f46 := ⟨ "slices.siftDownCmpFunc[groma/point.Point]", by decide, Try.func74.trans (congrArg some (by kernel_rfl))⟩
  f47 := Try.func75.trans (congrArg some (by kernel_rfl))
  f48 := Try.func76.trans (congrArg some (by kernel_rfl))
  f49 := ⟨ "slices.medianAdjacentCmpFunc[groma/point.Point]", by decide, Try.func77.trans (congrArg some (by kernel_rfl))⟩
  f50 := ⟨ "slices.medianCmpFunc[groma/point.Point]", by decide, Try.func78.trans (congrArg some (by kernel_rfl))⟩
  f57 := ⟨ "slices.order2CmpFunc[groma/point.Point]", by decide, Try.func79.trans (congrArg some (by kernel_rfl))⟩
  t0 := Try.underlying0
  a0 := Try.isAgg0
  z0 := Try.sizeOf0
  v0 := Try.zeroValue0
  t3 := Try.underlying3
  a3 := Try.isAgg3
  z3 := Try.sizeOf3
  v3 := Try.zeroValue3
  t4 := Try.underlying4
  a4 := Try.isAgg4
  z4 := Try.sizeOf4
  v4 := Try.zeroValue4
  t5 := Try.underlying5
  a5 := Try.isAgg5
  z5 := Try.sizeOf5
  v5 := Try.zeroValue5
  t9 := Try.underlying9
  a9 := Try.isAgg9
  z9 := Try.sizeOf9
  v9 := Try.zeroValue9
  t22 := Try.underlying22
  a22 := Try.isAgg22
  z22 := Try.sizeOf22
  v22 := Try.zeroValue22
  t25 := Try.underlying45
  a25 := Try.isAgg45
  z25 := Try.sizeOf45
  v25 := Try.zeroValue45
  t39 := Try.underlying75
  a39 := Try.isAgg75
  z39 := Try.sizeOf75
  v39 := Try.zeroValue75
  t45 := Try.underlying88
  a45 := Try.isAgg88
  z45 := Try.sizeOf88
  v45 := Try.zeroValue88
  t46 := Try.underlying89
  a46 := Try.isAgg89
  z46 := Try.sizeOf89
  v46 := Try.zeroValue89
  t50 := Try.underlying93
  a50 := Try.isAgg93
  z50 := Try.sizeOf93
  v50 := Try.zeroValue93
  t53 := Try.underlying96
  a53 := Try.isAgg96
  z53 := Try.sizeOf96
  v53 := Try.zeroValue96
  t55 := Try.underlying52
  a55 := Try.isAgg52
  z55 := Try.sizeOf52
  v55 := Try.zeroValue52
  t66 := Try.underlying99
  a66 := Try.isAgg99
  z66 := Try.sizeOf99
  v66 := Try.zeroValue99
  t70 := Try.underlying103
  a70 := Try.isAgg103
  z70 := Try.sizeOf103
  v70 := Try.zeroValue103
  t76 := Try.underlying105
  a76 := Try.isAgg105
  z76 := Try.sizeOf105
  v76 := Try.zeroValue105
  t77 := Try.underlying106
  a77 := Try.isAgg106
  z77 := Try.sizeOf106
  v77 := Try.zeroValue106

def Try.revP_ren : Go.Shelf.Ren := ⟨fun | 35 => 20 | n => n, fun | 0 => 0 | 3 => 3 | 4 => 4 | 22 => 22 | 23 => 25 | n => n, fun n => n⟩
theorem Try.revP : Go.Proofs.SlLaysE0.n35 Try.prog Try.revP_ren where
  mixed := by kernel_rfl
  f35 := ⟨ "slices.Reverse[[]groma/point.Point,groma/point.Point]", by decide, Try.func20.trans (congrArg some (by kernel_rfl))⟩
  t0 := Try.underlying0
  a0 := Try.isAgg0
  z0 := Try.sizeOf0
  v0 := Try.zeroValue0
  t3 := Try.underlying3
  a3 := Try.isAgg3
  z3 := Try.sizeOf3
  v3 := Try.zeroValue3
  t4 := Try.underlying4
  a4 := Try.isAgg4
  z4 := Try.sizeOf4
  v4 := Try.zeroValue4
  t22 := Try.underlying22
  a22 := Try.isAgg22
  z22 := Try.sizeOf22
  v22 := Try.zeroValue22

set_option maxRecDepth 100000 in
theorem Compare_ex (x y : Int) (w : World) :
    Calls Try.prog 30 #[.int .i64 x, .int .i64 y] w fun e w' => e = .returned (.int .i64 (cmpI x y)) ∧ w' = w := by
  rcases Int.lt_trichotomy x y with h | h | h
  · rw [cmpI_lt h]
    go_enter Try.func30, Try.ntmps30
    go_wp2
    go_ret
    exact ⟨rfl, rfl⟩
  · subst h
    rw [cmpI_eq]
    go_enter Try.func30, Try.ntmps30
    go_wp2
    go_ret
    exact ⟨rfl, rfl⟩
  · rw [cmpI_gt h]
    go_enter Try.func30, Try.ntmps30
    go_wp2
    go_ret
    exact ⟨rfl, rfl⟩
set_option maxRecDepth 100000 in
set_option maxHeartbeats 1000000 in
theorem Or2_ex (a b : Int) (bl : Nat) (w : World) (c0 : w.cell? ⟨bl, 0, none⟩ = some (.int .i64 a)) (c1 : w.cell? ⟨bl, 1, none⟩ = some (.int .i64 b)) :
    Calls Try.prog 29 #[.slice (some ⟨bl, 0, none⟩) 2 2] w fun e w' => e = .returned (.int .i64 (or2 a b)) ∧ w' = w := by
  obtain ⟨t, ht⟩ : ∃ t, or2 a b = t := ⟨_, rfl⟩
  rw [ht]
  unfold or2 at ht
  by_cases h0 : a = 0
  · subst h0
    have h1 : b = t := ht
    subst h1
    by_cases h2 : b = 0
    · subst h2
      go_enter Try.func29, Try.ntmps29
      go_wp2
      refine wp_loop_rounds 3 ?_
      iterate 3
        rw [rounds_succ]
        go_wp2
      go_ret
      exact ⟨rfl, rfl⟩
    · go_enter Try.func29, Try.ntmps29
      go_wp2
      refine wp_loop_rounds 3 ?_
      iterate 2
        rw [rounds_succ]
        go_wp2
      go_ret
      exact ⟨rfl, rfl⟩
  · have h3 : (a == 0) = false := by simpa using h0
    have h1 : a = t := by rw [h3] at ht; exact ht
    clear h3 ht
    subst h1
    go_enter Try.func29, Try.ntmps29
    go_wp2
    refine wp_loop_rounds 3 ?_
    rw [rounds_succ]
    go_wp2
    go_ret
    exact ⟨rfl, rfl⟩
/-- only draws, and new blocks -/
def Gn (w w' : World) : Prop := ∃ q os, w' = Sort.grow (w.drewN q) os
theorem Gn.refl (w : World) : Gn w w := ⟨0, #[], by simp [Sort.grow, World.drewN]⟩
theorem Gn.trans {a b c : World} (h : Gn a b) (k : Gn b c) : Gn a c := by
  obtain ⟨q, os, rfl⟩ := h
  obtain ⟨r, os', rfl⟩ := k
  exact ⟨q + r, os ++ os', by simp [Sort.grow, World.drewN, Nat.add_assoc]⟩
theorem Gn.alloc (w : World) (o : Obj) : Gn w (w.alloc o) := ⟨0, #[o], by rw [Sort.alloc_eq_grow]; simp [Sort.grow, World.drewN]⟩
theorem Gn.drew (w : World) (q : Nat) : Gn w (w.drewN q) := ⟨q, #[], by simp [Sort.grow, World.drewN]⟩
set_option maxRecDepth 100000 in
set_option maxHeartbeats 1000000 in
theorem PtCmp_ex (ax ay bx b_y : Int) (w : World) :
    Calls Try.prog 14 #[pI ax ay, pI bx b_y] w fun e w' => e = .returned (.int .i64 (cmpP ax ay bx b_y)) ∧ Gn w w' := by
  unfold cmpP
  obtain ⟨x, hx⟩ : ∃ x, cmpI ax bx = x := ⟨_, rfl⟩
  obtain ⟨y, hy⟩ : ∃ y, cmpI ay b_y = y := ⟨_, rfl⟩
  rw [hx, hy]
  have HX := Lib.hid hx
  have HY := Lib.hid hy
  clear hx hy
  go_enter Try.func14, Try.ntmps14
  go_wp2_with fail
  refine name_world ?_
  intro W hW
  have ka : PVar W w.heap.size ax ay := by rw [hW]; exact (Blk.new w _ _).alloc _
  have kb : PVar W (w.heap.size + 1) bx b_y := by rw [hW]; exact Blk.new1 w _ _ _
  have hg : Gn w W := by rw [hW]; exact (Gn.alloc _ _).trans (Gn.alloc _ _)
  clear hW
  have ca := PVar.c ka
  have cb := PVar.c kb
  clear ka kb
  refine wp_region_sched 9 [(true, 0), (true, 1), (true, 2), (true, 3), (true, 5), (true, 6), (true, 7), (true, 8), (false, 4)] (fun w' => ∃ q : Nat, w' = W.drewN q) (by kernel_rfl) (by kernel_rfl) (fun _ _ d _ _ h => by cases d <;> exact h) ⟨1, rfl⟩ ?_
  show wpS _ _ _ _ _ _ _ (W.drewN 1)
  iterate 8
    refine wpS_takeL rfl rfl ?_
    go_big_quiet_step (rfl)
    refine wpQuiet_nil ?_
  refine wpS_doL rfl ?_
  intro K hK
  go_wp2_with ((first | (go_at_call 30; (with_reducible refine (Compare_ex ax bx _).mono ?_); rintro e w2 ⟨rfl, rfl⟩; rw [HX.out]) | (go_at_call 30; (with_reducible refine (Compare_ex ay b_y _).mono ?_); rintro e w2 ⟨rfl, rfl⟩; rw [HY.out])))
  refine hK.out _ _ ⟨1, rfl⟩ ?_
  clear hK K
  refine wpS_nil ?_
  simp only [List.drop_succ_cons, List.drop_zero]
  replace hg := hg.trans (Gn.drew W 1)
  obtain ⟨V0, hV0⟩ : ∃ V, W.drewN 1 = V := ⟨_, rfl⟩
  rw [hV0] at hg ⊢
  clear ca cb hV0
  go_wp2_with fail
  refine (Compare_ex ay b_y _).mono ?_
  rintro e u1 ⟨rfl, rfl⟩
  rw [HY.out]
  go_wp2_with fail
  refine calls_w ?_
  intro V hV
  have kl : Blk V u1.heap.size #[.int .i64 x, .int .i64 y] 3 := by rw [hV]; exact Blk.new _ _ _
  have hv : Gn u1 V := by rw [hV]; exact Gn.alloc _ _
  replace hg := hg.trans hv
  clear hV hv
  refine (Or2_ex x y _ _ (kl.cell 0) (kl.cell 1)).mono ?_
  rintro e u2 ⟨rfl, rfl⟩
  clear kl
  go_wp2
  go_ret
  exact ⟨rfl, hg⟩
/-- a point's two cells -/
def enP (p : PP) : List Value := [.int .i64 p.1, .int .i64 p.2]
theorem enP_one (x : PP) : ∀ v ∈ enP x, v.oneCell' = true := fun v hv => by simp [enP] at hv; rcases hv with rfl | rfl <;> rfl
def cfP (a b : PP) : Int := cmpP a.1 a.2 b.1 b.2
theorem cmpLaysP (blk off size : Nat) (w : World) : CmpLays Try.prog 14 #[] enP 2 cfP blk off size w :=
  fun _ _ _ _ x y => (PtCmp_ex x.1 x.2 y.1 y.2 _).mono fun _ _ h => ⟨h.1, h.2⟩
theorem ltOfP (a b : PP) : ltOf cfP a b = ahP a b := by
  unfold ltOf cfP cmpP or2
  apply Bool.eq_iff_iff.2
  rw [ahP_iff, decide_eq_true_eq]
  rcases Int.lt_trichotomy a.1 b.1 with h | h | h
  · rw [cmpI_lt h]; simp [h]
  · rw [h, cmpI_eq]
    rcases Int.lt_trichotomy a.2 b.2 with k | k | k
    · rw [cmpI_lt k]; simp [k]
    · rw [k, cmpI_eq]; simp
    · rw [cmpI_gt k]; simp; omega
  · rw [cmpI_gt h]; simp; omega
theorem swoP : Sort.SWO (ltOf cfP) where
  irrefl x := by rw [ltOfP]; exact ahP_irr x
  trans x y z h1 h2 := by rw [ltOfP, ahP_iff] at *; omega
  ntrans x y z h1 h2 := by
    rw [ltOfP] at *
    have n1 := ahP_no h1
    have n2 := ahP_no h2
    cases h : ahP x z
    · rfl
    · rw [ahP_iff] at h; omega
theorem flat_at (d : Array PP) (k : Nat) (hk : k < d.size) : (Sort.flatK enP 2 d)[k * 2]! = .int .i64 (d[k]!).1 ∧ (Sort.flatK enP 2 d)[k * 2 + 1]! = .int .i64 (d[k]!).2 := by
  rw [Sort.get_flatK _ _ _ _ (by omega), Sort.get_flatK _ _ _ _ (by omega), show k * 2 / 2 = k by omega, show (k * 2 + 1) / 2 = k by omega, show k * 2 % 2 = 0 by omega, show (k * 2 + 1) % 2 = 1 by omega]
  exact ⟨rfl, rfl⟩
theorem RowP.holdsK {w : World} {g cap : Nat} {f : Nat → PP} {d : Array PP} (h : RowP w g cap d.size f) (e : ∀ k, k < d.size → d[k]! = f k) : Sort.HoldsK enP 2 w g 0 d := by
  intro j hj
  rw [Sort.size_flatK] at hj
  rw [Nat.zero_add]
  refine ⟨?_, h.free j⟩
  have hk : j / 2 < d.size := by omega
  have a := h.cell hk
  have b := flat_at d (j / 2) hk
  rw [e _ hk] at b
  rcases Nat.mod_two_eq_zero_or_one j with h2 | h2
  · have e2 : j = j / 2 * 2 := by omega
    rw [e2]
    exact a.1.trans (congrArg some b.1.symm)
  · have e2 : j = j / 2 * 2 + 1 := by omega
    rw [e2]
    exact a.2.trans (congrArg some b.2.symm)
/-- what the library tells of a row that it turned -/
theorem RowP.put {w : World} {g cap n : Nat} {f : Nat → PP} {d : Array PP} (h : RowP w g cap n f) (hd : d.size = n) (q : Nat) (os : Array Obj) :
    RowP (Sort.grow (Sort.putRowK enP 2 (Sort.ahead w q) g 0 d) os) g cap n (fun k => d[k]!) ∧ w.grownBy (Sort.grow (Sort.putRowK enP 2 (Sort.ahead w q) g 0 d) os) (some g) := by
  subst hd
  have hlt := h.lt
  obtain ⟨cur, h1, h2, h3, h4, h5⟩ := h
  have hsz : (Sort.putRowK enP 2 (Sort.ahead w q) g 0 d).heap.size = w.heap.size := by simp [Sort.putRowK, Sort.putRow, Sort.mapBlock, Sort.ahead]
  have hold : ∀ k, k < w.heap.size → (Sort.grow (Sort.putRowK enP 2 (Sort.ahead w q) g 0 d) os).heap[k]? = (Sort.putRowK enP 2 (Sort.ahead w q) g 0 d).heap[k]? := fun k hk => Sort.heap_grow_old _ _ (by rw [hsz]; exact hk)
  refine ⟨⟨Sort.putCells id 0 (Sort.flatK enP 2 d) cur, ?_, h2, h3, ?_, fun k hk => ?_⟩, rfl, rfl, rfl, ?_, fun k hk hne => ?_⟩
  · rw [hold g hlt]
    simp [Sort.putRowK, Sort.putRow, Sort.mapBlock, Sort.ahead, Array.getElem?_modify, h1, Sort.onCells]
  · simp [Sort.putCells, h4]
  · have b := flat_at d k hk
    have e : ∀ i, i < d.size * 2 → (Sort.putCells id 0 (Sort.flatK enP 2 d) cur)[i]? = some ((Sort.flatK enP 2 d)[i]!) := fun i hi => by
      have : i < cur.size := by omega
      simp [Sort.putCells, this, hi]
    rw [e _ (by omega), e _ (by omega), b.1, b.2]
    exact ⟨rfl, rfl⟩
  · rw [Sort.size_grow, hsz]; omega
  · rw [hold k hk]
    have : g ≠ k := fun e => hne (by rw [e])
    simp [Sort.putRowK, Sort.putRow, Sort.mapBlock, Sort.ahead, Array.getElem?_modify, this]
theorem arr_get (L : List PP) (k : Nat) : (L.toArray)[k]! = gP L k := by
  unfold gP
  rw [List.getD_eq_getElem?_getD]
  simp [getElem!_def]
  cases L[k]? <;> rfl
theorem SortFunc_is (w : World) (g cap n : Nat) (L : List PP) (hL : L.length = n) (h : RowP w g cap n (gP L)) (hn : n ≤ 4096) :
    Calls Try.prog 33 #[.slice (some ⟨g, 0, none⟩) n cap, .func (.func 14) #[] #[]] w fun e w' => e = .returned (.tuple #[]) ∧ ∃ L' : List PP, L'.Perm L ∧ (∀ i j, i < j → j < L'.length → ahP (gP L' j) (gP L' i) = false) ∧ RowP w' g cap n (gP L') ∧ w.grownBy w' (some g) := by
  subst hL
  have hsz : L.toArray.size = L.length := by simp
  have hH : Sort.HoldsK enP 2 w g 0 L.toArray := RowP.holdsK (by rw [hsz]; exact h) (fun k _ => arr_get L k)
  have eg : ∀ args w, (callFunc 14 args).run Try.prog w = .ok (.enter 14 args) w := enters_of Try.func14 (by kernel_rfl) rfl
  have hcon := AnyQ.slices_SortFunc Try.sortP 2 Try.isAgg25 Try.sizeOf25 enP (fun _ => rfl) enP_one cfP swoP 14 #[] g 0 cap L.toArray w eg (cmpLaysP g 0 _ w) hH h.lt (by rw [hsz]; omega)
  rw [hsz] at hcon
  refine Calls.mono hcon ?_
  rintro e w' ⟨rfl, d', q, os, ⟨hp1, _, hp3⟩, hs, rfl⟩
  have hd : d'.size = L.length := by rw [hp1, hsz]
  have hr := h.put hd q os
  have hall : ∀ k, d'[k]! = gP d'.toList k := fun k => by rw [← arr_get]
  refine ⟨rfl, d'.toList, ?_, fun i j hij hj => ?_, hr.1.congr fun k _ => hall k, hr.2⟩
  · have e1 : (d'.extract 0 L.length) = d' := by rw [← hd]; simp
    have e2 : (L.toArray.extract 0 L.length) = L.toArray := by rw [← hsz]; simp
    rw [e1, e2] at hp3
    simpa using hp3
  · have := hs i j (Nat.zero_le _) hij (by simpa [hd] using hj)
    rw [ltOfP, hall, hall] at this
    exact this
theorem Reverse_is (w : World) (g cap n : Nat) (L : List PP) (hL : L.length = n) (h : RowP w g cap n (gP L)) (hn : n ≤ 4096) :
    Calls Try.prog 20 #[.slice (some ⟨g, 0, none⟩) n cap] w fun e w' => e = .returned (.tuple #[]) ∧ RowP w' g cap n (gP L.reverse) ∧ w.grownBy w' (some g) := by
  subst hL
  have hsz : L.toArray.size = L.length := by simp
  have hH : Sort.HoldsK enP 2 w g 0 L.toArray := RowP.holdsK (by rw [hsz]; exact h) (fun k _ => arr_get L k)
  have hcon := AnyQ.slices_Reverse Try.revP 2 Try.isAgg25 Try.sizeOf25 enP (fun _ => rfl) enP_one g 0 cap L.toArray w hH (by rw [hsz]; omega)
  rw [hsz] at hcon
  refine Calls.mono hcon ?_
  rintro e w' ⟨rfl, q, rfl⟩
  have hr := h.put (d := L.toArray.reverse) (by simp) q #[]
  have e0 : Sort.grow (Sort.putRowK enP 2 (Sort.ahead w q) g 0 L.toArray.reverse) #[] = Sort.putRowK enP 2 (Sort.ahead w q) g 0 L.toArray.reverse := by simp [Sort.grow]
  rw [e0] at hr
  refine ⟨rfl, hr.1.congr fun k _ => ?_, hr.2⟩
  rw [List.reverse_toArray, arr_get]
end Go.Proofs.Ytdcihglpfchcmaa

namespace Go.Proofs.Ytdcihglpfchcmaa
open Go.RowKit

section
variable {P : Program} {C : World → Prop} {Q : Exit → Act → World → Prop}
theorem len_value {o : Oper} {c : Call} {ρ : Operand → Value} {w w' : World} {n : Next} (hp : o.op = .call c) (hb : c.callee = .builtin .len) (h : (execOp ρ o).run P w = .ok n w') : ∃ v, n = .value v := by
  unfold execOp at h
  rw [hp] at h
  dsimp only at h
  unfold resolve at h
  rw [hb] at h
  simp only [Sem.run_bind, Sem.run_pure, Result.andThen_ok, invoke, builtin] at h
  cases h1 : Sem.run P (Builtin.len_ c.argTypes o.type (c.args.map ρ)) w with
  | halt y w1 => rw [h1] at h; simp [Result.andThen] at h
  | ok p w1 => rw [h1] at h; simp only [Result.andThen] at h; exact ⟨_, ((Result.ok.inj h).1).symm⟩
theorem len_yields {o : Oper} {c : Call} {a : Act} {v : Value} (hp : o.op = .call c) (hb : c.callee = .builtin .len) (h : ∀ w, C w → o.quietAt P a C w v) : ∀ w, C w → (execOp a.eval o).run P w = .ok (.value v) w := by
  intro w hw
  have h3 := h w hw
  unfold Oper.quietAt at h3
  cases hr : (execOp a.eval o).run P w with
  | ok n w' =>
    rw [hr] at h3
    obtain ⟨u, rfl⟩ := len_value hp hb hr
    simp only [Oper.quietUpon] at h3
    rw [h3.1, h3.2]
  | halt x w' => rw [hr] at h3; simp only [Oper.quietUpon] at h3
theorem wpS_takeB {l : List Oper} {T : Act → World → Prop} {σ : List (Bool × Nat)} {i : Nat} {o : Oper} {c : Call} {a : Act} {w : World} (ho : l[i]? = some o) (hp : o.op = .call c) (hb : c.callee = .builtin .len)
    (h : wpQuiet P l.toArray C (fun a' => wpS P l.toArray C Q T σ a' w) [o] a) : wpS P l.toArray C Q T ((true, i) :: σ) a w := by
  unfold wpQuiet at h
  by_cases hw : Region.wanted o (yielded l.toArray a.tmps) = true
  · rw [if_pos hw] at h
    obtain ⟨v, h1, h2⟩ := h
    exact ⟨o, v, by simpa using ho, .inl ⟨hw, len_yields hp hb h1⟩, h2⟩
  · rw [if_neg hw] at h
    exact ⟨o, undef, by simpa using ho, .inr ⟨by simpa using hw, rfl⟩, h⟩
end
end Go.Proofs.Ytdcihglpfchcmaa

namespace Go.Proofs.Ytdcihglpfchcmaa
open Go.RowKit

structure OutL (l : List Nat) (W w' : World) : Prop where
  os : w'.os = W.os
  tape : w'.tape = W.tape
  output : w'.output = W.output
  size : W.heap.size ≤ w'.heap.size
  block : ∀ k, k < W.heap.size → k ∉ l → w'.heap[k]? = W.heap[k]?
theorem OutL.refl (l : List Nat) (W : World) : OutL l W W := ⟨rfl, rfl, rfl, Nat.le_refl _, fun _ _ _ => rfl⟩
theorem OutL.ofBelow {l : List Nat} {w w' : World} (h : Below w.heap.size w w') : OutL l w w' := ⟨h.os, h.tape, h.output, h.size, fun k hk _ => h.block k hk⟩
theorem OutL.trans {l : List Nat} {W w w' : World} (h : OutL l W w) (h' : OutL l w w') : OutL l W w' :=
  ⟨h'.os.trans h.os, h'.tape.trans h.tape, h'.output.trans h.output, Nat.le_trans h.size h'.size, fun k hk hc => (h'.block k (Nat.lt_of_lt_of_le hk h.size) hc).trans (h.block k hk hc)⟩
theorem OutL.mono {l l' : List Nat} {W w : World} (h : OutL l W w) (hl : ∀ k, k < W.heap.size → k ∈ l → k ∈ l') : OutL l' W w :=
  ⟨h.os, h.tape, h.output, h.size, fun k hk hc => h.block k hk fun hm => hc (hl k hk hm)⟩
theorem OutL.set {l : List Nat} {W w : World} (h : OutL l W w) {b : Nat} (hb : b ∈ l) (o : Nat) (s : Option Nat) (v : Value) : OutL l W (w.setCell ⟨b, o, s⟩ v) :=
  ⟨h.os, h.tape, h.output, by simpa [World.setCell] using h.size, fun k hk hc => (Below.heap_setCell _ _ _ _ (fun e => hc (by have : k = b := e; rw [this]; exact hb))).trans (h.block k hk hc)⟩
theorem OutL.alloc {l : List Nat} {W w : World} (h : OutL l W w) (o : Obj) : OutL l W (w.alloc o) := h.trans (.ofBelow ((Below.refl _ _).alloc (Nat.le_refl _) o))
theorem OutL.drew {l : List Nat} {W w : World} (h : OutL l W w) : OutL l W w.drew := h.trans (.ofBelow (Below.refl _ _).drew)
theorem OutL.below {l : List Nat} {B : Nat} {W w : World} (h : OutL l W w) (hB : B ≤ W.heap.size) (hl : ∀ k ∈ l, B ≤ k) : Below B W w :=
  ⟨h.os, h.tape, h.output, h.size, fun k hk => h.block k (by omega) fun hm => by have := hl k hm; omega⟩
def UpL (l : List Nat) (W : World) : Type := { w' : World // OutL l W w' }
def UpL.w {l : List Nat} {W : World} (u : UpL l W) : World := u.1
@[go_sem] theorem UpL.cell {l : List Nat} {W : World} (u : UpL l W) (b o : Nat) (h : b < W.heap.size) (hc : b ∉ l) : u.w.cell? ⟨b, o, none⟩ = W.cell? ⟨b, o, none⟩ :=
  World.cell?_of_block (w := W) (u.2.block b h hc)
end Go.Proofs.Ytdcihglpfchcmaa

namespace Go.Proofs.Ytdcihglpfchcmaa
open Go.RowKit Go.Shelf

/-- two blocks lie as they lay -/
def Fix2 (l D : Nat) (W W' : World) : Prop := W'.heap[l]? = W.heap[l]? ∧ W'.heap[D]? = W.heap[D]?
theorem Fix2.of {L : List Nat} {l D : Nat} {W W' : World} (h : OutL L W W') (h1 : l < W.heap.size) (h2 : D < W.heap.size) (n1 : l ∉ L) (n2 : D ∉ L) : Fix2 l D W W' := ⟨h.block _ h1 n1, h.block _ h2 n2⟩
theorem putObj_out (W : World) (l : Nat) (o : Obj) : OutL [l] W (W.putObj l o) :=
  ⟨rfl, rfl, rfl, Nat.le_of_eq (by simp), fun k _ hc => World.putObj_heap_other (by simpa using hc)⟩
set_option maxHeartbeats 1000000 in
/-- what lay at or above block B is as it was -/
structure Above (B : Nat) (W W' : World) : Prop where
  size : W.heap.size ≤ W'.heap.size
  block : ∀ k, B ≤ k → k < W.heap.size → W'.heap[k]? = W.heap[k]?
theorem Above.refl (B : Nat) (W : World) : Above B W W := ⟨Nat.le_refl _, fun _ _ _ => rfl⟩
theorem Above.trans {B : Nat} {W W1 W2 : World} (h : Above B W W1) (k : Above B W1 W2) : Above B W W2 :=
  ⟨Nat.le_trans h.size k.size, fun j hj hk => (k.block j hj (Nat.lt_of_lt_of_le hk h.size)).trans (h.block j hj hk)⟩
theorem Above.ofOut {B : Nat} {L : List Nat} {W W' : World} (h : OutL L W W') (hL : ∀ k ∈ L, k < B) : Above B W W' :=
  ⟨h.size, fun k hk hs => h.block k hs fun hm => by have := hL k hm; omega⟩
theorem Above.ofBelow {B : Nat} {W W' : World} (h : Below W.heap.size W W') : Above B W W' := .ofOut (L := []) (.ofBelow h) (fun _ hm => by cases hm)
theorem Above.putObj {B D : Nat} (W : World) (hD : D < B) (o : Obj) : Above B W (W.putObj D o) := .ofOut (putObj_out W D o) (by simpa using hD)
end Go.Proofs.Ytdcihglpfchcmaa

namespace Go.Proofs.Ytdcihglpfchcmaa
open Go.RowKit Go.Shelf

/-- what lay at or above block B is as it was, but for G -/
structure AboveX (B : Nat) (G : Nat → Prop) (W W' : World) : Prop where
  size : W.heap.size ≤ W'.heap.size
  block : ∀ k, B ≤ k → k < W.heap.size → ¬ G k → W'.heap[k]? = W.heap[k]?
theorem AboveX.refl (B : Nat) (G : Nat → Prop) (W : World) : AboveX B G W W := ⟨Nat.le_refl _, fun _ _ _ _ => rfl⟩
theorem AboveX.trans {B : Nat} {G : Nat → Prop} {W W1 W2 : World} (h : AboveX B G W W1) (k : AboveX B G W1 W2) : AboveX B G W W2 :=
  ⟨Nat.le_trans h.size k.size, fun j hj hk hn => (k.block j hj (Nat.lt_of_lt_of_le hk h.size) hn).trans (h.block j hj hk hn)⟩
theorem AboveX.ofAbove {B : Nat} {G : Nat → Prop} {W W' : World} (h : Above B W W') : AboveX B G W W' := ⟨h.size, fun k h1 h2 _ => h.block k h1 h2⟩
/-- what lay below B, and G, is as it was -/
def BelowX (B : Nat) (G : Nat → Prop) (W W' : World) : Prop := Below B W W' ∧ ∀ g, G g → g < W.heap.size → W'.heap[g]? = W.heap[g]?
theorem BelowX.mono {B B' : Nat} {G : Nat → Prop} {W W' : World} (h : BelowX B G W W') (hb : B' ≤ B) : BelowX B' G W W' := ⟨h.1.mono hb, h.2⟩
theorem BelowX.all {B : Nat} {G : Nat → Prop} {W W' : World} (h : Below W.heap.size W W') (hb : B ≤ W.heap.size) : BelowX B G W W' := ⟨h.mono hb, fun g _ hg => h.block g hg⟩
theorem BelowX.trans {B : Nat} {G : Nat → Prop} {W W1 W2 : World} (h : BelowX B G W W1) (k : BelowX B G W1 W2) : BelowX B G W W2 :=
  ⟨h.1.trans k.1, fun g hg hs => (k.2 g hg (Nat.lt_of_lt_of_le hs h.1.size)).trans (h.2 g hg hs)⟩
/-- the iterator g (captured: lb) tells encs 0, encs 1, .. up to N, as far as it is asked; it turns nothing below B; a round keeps what lies at or above B; it asks Kp between two rounds -/
def TellsX (P : Program) (gf : Nat) (lb : Array Value) (N : Nat) (encs : Nat → Array Value) (B : Nat) (Kp : World → Prop) : Prop :=
  ∀ (m lid : Nat) (I : (Nat → Prop) → Nat → World → Prop) (Ix : Nat → World → Prop), (∀ G k W, I G k W → Kp W) → (∀ G k W, I G k W → ∀ g, G g → B ≤ g ∧ g < W.heap.size) → (∀ G k W W', I G k W → BelowX B G W W' → I G k W') → (∀ k W W', Ix k W → Below B W W' → Ix k W') →
    (∀ G k W, k < N → I G k W → YieldAt Fence.wide m P lid (encs k) W fun e W' => ((e = .returned (.bool true) ∧ ∃ G', (∀ g, G' g → G g ∨ W.heap.size ≤ g) ∧ I G' (k + 1) W') ∨ (e = .returned (.bool false) ∧ Ix (k + 1) W')) ∧ AboveX B G W W') →
    ∀ W, B ≤ W.heap.size → I (fun _ => False) 0 W → CallsIn Fence.wide (m + 1) P gf (#[.func (.yield lid) #[] #[]] ++ lb) W fun e W' => (∃ v, e = .returned v) ∧ ((∃ G, I G N W') ∨ ∃ k, k ≤ N ∧ Ix k W')
def rPostX (B l D : Nat) (W : World) (J : (Nat → Prop) → Nat → World → Prop) (Jx : Code → Nat → World → Prop) (G : Nat → Prop) (k : Nat) : Exit → Act → World → Prop
  | .normal, _, W' => (Fix2 l D W W' ∧ ∃ G', (∀ g, G' g → G g ∨ W.heap.size ≤ g) ∧ J G' (k + 1) W') ∧ AboveX B G W W'
  | .ret, _, W' => (Fix2 l D W W' ∧ Jx .ret (k + 1) W') ∧ AboveX B G W W'
  | .exit id, _, W' => (Fix2 l D W W' ∧ Jx (.exit id) (k + 1) W') ∧ AboveX B G W W'
  | .goto t, _, W' => (Fix2 l D W W' ∧ Jx (.goto t) (k + 1) W') ∧ AboveX B G W W'
  | .panic _, _, _ => False
  | .outgrown, _, _ => False
set_option maxHeartbeats 1000000 in
theorem wpIn_rangeX {P : Program} {g : Operand} {ps : Array Tmp} {assign body : Code} {Q : Exit → Act → World → Prop} {a : Act} {w : World} {m : Nat} {gf : Nat} {lb : Array Value} {N : Nat} {encs : Nat → Array Value} {Kp : World → Prop}
    (hg : a.eval g = .func (.func gf) #[] lb) (eg : ∀ args w, (callFunc gf args).run P w = .ok (.enter gf args) w)
    (hT : TellsX P gf lb N encs (w.heap.size + 2) Kp) (hps : ∀ k, (encs k).size = ps.size)
    (J : (Nat → Prop) → Nat → World → Prop) (Jx : Code → Nat → World → Prop) (hG : ∀ G k W, J G k W → ∀ g, G g → w.heap.size + 2 ≤ g ∧ g < W.heap.size) (hst : ∀ G k W W', J G k W → BelowX w.heap.size G W W' → J G k W') (hxst : ∀ c k W W', Jx c k W → Below w.heap.size W W' → Jx c k W')
    (hKp : ∀ G k W, J G k W → Kp W) (h0 : J (fun _ => False) 0 w)
    (hround : ∀ (lid D k : Nat) (G : Nat → Prop) (W : World), k < N → J G k W → lid = w.heap.size + 1 → D = w.heap.size → lid < W.heap.size → D < W.heap.size →
      assign.wpIn (Fence.wide.inRound lid) m P (Exit.then (fun a₁ w₁ => (Fix2 lid D W w₁ ∧ AboveX (w.heap.size + 2) G W w₁) ∧ ∀ w₂, OutL [lid] w₁ w₂ → body.wpIn (Fence.wide.inRound lid) m P (rPostX (w.heap.size + 2) lid D w₂ J Jx G k) a₁ w₂) (fun _ _ _ => False))
        { tmps := (ps.zip (encs k)).foldl (fun t (p, v) => t.setIfInBounds p v) a.tmps, defers := [] } W)
    (hdone : ∀ D G W, D = w.heap.size → J G N W → W.heap[D]? = some (.deferred (some [])) → Q .normal { a with defers := { target := .collected D, args := #[] } :: a.defers } W)
    (hstop : ∀ D c k W, D = w.heap.size → Jx c k W → W.heap[D]? = some (.deferred (some [])) → c.wpIn Fence.wide (m + 2) P Q { a with defers := { target := .collected D, args := #[] } :: a.defers } W) :
    (Code.rangeFunc g ps assign body).wpIn Fence.wide (m + 2) P Q a w := by
  refine wpIn_rangeFunc ?_
  intro fn hfn
  obtain ⟨rec, hrec⟩ : ∃ rec : LoopState → Option Code → Loop, rec = fun st pe => { state := st, pending := pe, fn, tmps := a.tmps, params := ps, assign, body, defers := w.heap.size } := ⟨_, rfl⟩
  obtain ⟨W1, hW1⟩ : ∃ W1, (w.alloc (.deferred (some []))).alloc (.loop (rec .ready none)) = W1 := ⟨_, rfl⟩
  have hL1 : W1.heap[w.heap.size + 1]? = some (.loop (rec .ready none)) := by
    rw [← hW1]; have := World.alloc_heap_new (w.alloc (.deferred (some []))) (.loop (rec .ready none)); rwa [World.size_alloc] at this
  have hK1 : W1.heap[w.heap.size]? = some (.deferred (some [])) := by
    rw [← hW1]; exact (Below.heap_alloc _ _ _ (by simp)).trans (World.alloc_heap_new w _)
  have hb1 : Below w.heap.size w W1 := by rw [← hW1]; exact below_a2 _ _ _
  have hsz : W1.heap.size = w.heap.size + 2 := by rw [← hW1]; simp
  refine ⟨w.heap.size + 1, [{ target := .collected w.heap.size, args := #[] }], W1, { target := .fn (.func gf) lb, args := #[.func (.yield (w.heap.size + 1)) #[] #[]] }, W1, gf,
    #[.func (.yield (w.heap.size + 1)) #[] #[]] ++ lb, W1, ?_, ?_, ?_, ?_, fun h => absurd h (by decide), ?_⟩
  · rw [← hW1, hrec]; exact run_enterLoop_outer _ _ _ _ _
  · simp only [resolve, hg]
    simp [go_sem]
  · intro f' hf'; trivial
  · simp [invoke, go_sem, eg]
  · refine (hT m (w.heap.size + 1)
      (fun G k W => J G k W ∧ W.heap[w.heap.size + 1]? = some (.loop (rec .ready none)) ∧ W.heap[w.heap.size]? = some (.deferred (some [])))
      (fun k W => ∃ c, Jx c k W ∧ W.heap[w.heap.size + 1]? = some (.loop (rec .done (some c))) ∧ W.heap[w.heap.size]? = some (.deferred (some [])))
      (fun G k W h => hKp G k W h.1) (fun G k W h => hG G k W h.1) (fun G k W W' h hb => ⟨hst G k W W' h.1 (hb.mono (by omega)), (hb.1.block _ (by omega)).trans h.2.1, (hb.1.block _ (by omega)).trans h.2.2⟩)
      (fun k W W' h hb => by obtain ⟨c, h1, h2, h3⟩ := h; exact ⟨c, hxst c k W W' h1 (hb.mono (by omega)), (hb.block _ (by omega)).trans h2, (hb.block _ (by omega)).trans h3⟩)
      ?_ W1 (by omega) ⟨hst _ 0 _ _ h0 ⟨hb1, fun g hg => hg.elim⟩, hL1, hK1⟩).mono ?_
    · rintro G k W hk ⟨hi, hl, hd⟩
      have hlt : w.heap.size + 1 < W.heap.size := (Array.getElem?_eq_some_iff.1 hl).1
      have hy := run_yield (P := P) (args := encs k) hl (by rw [hrec]; exact hps k)
      rw [hrec] at hy
      refine ⟨fn, _, assign, body, hy, roundIn_of_wpIn trivial (wpIn_mono (hround _ _ k G W hk hi rfl rfl hlt (by omega)) ?_)⟩
      rintro e a1 w1 he
      cases e with
      | normal =>
        obtain ⟨⟨hf1, hab1⟩, hbody⟩ := he
        have hl1 : w1.heap[w.heap.size + 1]? = some (.loop (rec .ready none)) := hf1.1.trans hl
        have hd1 : w1.heap[w.heap.size]? = some (.deferred (some [])) := hf1.2.trans hd
        have hlt1 : w.heap.size + 1 < w1.heap.size := (Array.getElem?_eq_some_iff.1 hl1).1
        refine ⟨_, run_beginRound hl1 (by rw [hrec]), wpIn_mono (hbody _ (putObj_out _ _ _)) ?_⟩
        have hl2 : (w1.putObj (w.heap.size + 1) (.loop { rec .ready none with state := .busy })).heap[w.heap.size + 1]? = some (.loop { rec .ready none with state := .busy }) := World.putObj_heap_same hlt1
        have hd2 : (w1.putObj (w.heap.size + 1) (.loop { rec .ready none with state := .busy })).heap[w.heap.size]? = some (.deferred (some [])) := (World.putObj_heap_other (by omega)).trans hd1
        have fin : ∀ (jump : Option Code) (W3 : World), Fix2 (w.heap.size + 1) w.heap.size (w1.putObj (w.heap.size + 1) (.loop { rec .ready none with state := .busy })) W3 →
            (Instr.endRound (w.heap.size + 1) jump).run P W3 = .ok (.bool jump.isNone) (W3.putObj (w.heap.size + 1) (.loop (rec (if jump.isNone then .ready else .done) jump))) ∧
            (W3.putObj (w.heap.size + 1) (.loop (rec (if jump.isNone then .ready else .done) jump))).heap[w.heap.size + 1]? = some (.loop (rec (if jump.isNone then .ready else .done) jump)) ∧
            (W3.putObj (w.heap.size + 1) (.loop (rec (if jump.isNone then .ready else .done) jump))).heap[w.heap.size]? = some (.deferred (some [])) := fun jump W3 hk3 => by
          have hl3 := hk3.1.trans hl2
          have := run_endRound (P := P) jump hl3
          rw [hrec] at this ⊢
          exact ⟨this, World.putObj_heap_same (Array.getElem?_eq_some_iff.1 hl3).1, (World.putObj_heap_other (by omega)).trans (hk3.2.trans hd2)⟩
        have pb : ∀ (W3 : World) (o : Obj), w.heap.size ≤ W3.heap.size → Below w.heap.size W3 (W3.putObj (w.heap.size + 1) o) := fun W3 o h => (putObj_out W3 _ o).below h (by simp)
        have sz3 : ∀ W3 : World, Fix2 (w.heap.size + 1) w.heap.size (w1.putObj (w.heap.size + 1) (.loop { rec .ready none with state := .busy })) W3 → w.heap.size ≤ W3.heap.size := fun W3 h => by
          have := (Array.getElem?_eq_some_iff.1 (h.1.trans hl2)).1; omega
        rintro e a3 W3 hp
        have abv : ∀ o : Obj, AboveX (w.heap.size + 2) G (w1.putObj (w.heap.size + 1) (.loop { rec .ready none with state := .busy })) W3 → AboveX (w.heap.size + 2) G W (W3.putObj (w.heap.size + 1) o) := fun o h => ((hab1.trans (.ofAbove (.putObj _ (by omega) _))).trans h).trans (.ofAbove (.putObj _ (by omega) _))
        cases e with
        | normal =>
          obtain ⟨⟨hf3, G', hG', hJ3⟩, hab⟩ := hp
          obtain ⟨hr, hl4, hk4⟩ := fin none W3 hf3
          have hgg := hG _ _ _ hJ3
          refine ⟨_, _, hr, .inl ⟨rfl, G', fun g hg => ?_, hst _ _ _ _ hJ3 ⟨pb _ _ (sz3 _ hf3), fun g hg _ => World.putObj_heap_other (by have := hgg g hg; omega)⟩, hl4, hk4⟩, abv _ hab⟩
          rcases hG' g hg with h | h
          · exact .inl h
          · refine .inr (Nat.le_trans hab1.size ?_)
            simpa using h
        | ret =>
          obtain ⟨hp, hab⟩ := hp
          obtain ⟨hr, hl4, hk4⟩ := fin (some .ret) W3 hp.1
          exact ⟨_, _, hr, .inr ⟨rfl, .ret, hxst _ _ _ _ hp.2 (pb _ _ (sz3 _ hp.1)), hl4, hk4⟩, abv _ hab⟩
        | exit id =>
          obtain ⟨hp, hab⟩ := hp
          obtain ⟨hr, hl4, hk4⟩ := fin (some (.exit id)) W3 hp.1
          exact ⟨_, _, hr, .inr ⟨rfl, .exit id, hxst _ _ _ _ hp.2 (pb _ _ (sz3 _ hp.1)), hl4, hk4⟩, abv _ hab⟩
        | goto t =>
          obtain ⟨hp, hab⟩ := hp
          obtain ⟨hr, hl4, hk4⟩ := fin (some (.goto t)) W3 hp.1
          exact ⟨_, _, hr, .inr ⟨rfl, .goto t, hxst _ _ _ _ hp.2 (pb _ _ (sz3 _ hp.1)), hl4, hk4⟩, abv _ hab⟩
        | panic ch => exact hp.elim
        | outgrown => exact hp.elim
      | exit id => exact he.elim
      | goto t => exact he.elim
      | ret => exact he.elim
      | panic c => exact he.elim
      | outgrown => exact he.elim
    · rintro e W2 ⟨⟨v, rfl⟩, (⟨G, hi, hl, hd⟩ | ⟨k, _, c, hi, hl, hd⟩)⟩
      · have hlt : w.heap.size + 1 < W2.heap.size := (Array.getElem?_eq_some_iff.1 hl).1
        exact ⟨none, _, by have := run_endLoop (P := P) hl (by rw [hrec]; simp); rw [hrec] at this; exact this, hdone _ _ _ rfl (hst _ _ _ _ hi ⟨(putObj_out _ _ _).below (by omega) (by simp), fun g hg _ => World.putObj_heap_other (by have := hG _ _ _ hi g hg; omega)⟩) ((World.putObj_heap_other (by omega)).trans hd)⟩
      · have hlt : w.heap.size + 1 < W2.heap.size := (Array.getElem?_eq_some_iff.1 hl).1
        exact ⟨some c, _, by have := run_endLoop (P := P) hl (by rw [hrec]; simp); rw [hrec] at this; exact this, hstop _ c k _ rfl (hxst _ _ _ _ hi ((putObj_out _ _ _).below (by omega) (by simp))) ((World.putObj_heap_other (by omega)).trans hd)⟩
end Go.Proofs.Ytdcihglpfchcmaa

namespace Go.Proofs.Ytdcihglpfchcmaa
open Go.RowKit Go.Shelf
attribute [local go_sem] Oper.semAt_some

abbrev ptr (b o : Nat) : Value := .pointer (some ⟨b, o, none⟩)
theorem nameIn {F : Fence} {n : Nat} {P : Program} {c : Code} {Q : Exit → Act → World → Prop} {a : Act} {w : World} (h : ∀ W, W = w → c.wpIn F n P Q a W) : c.wpIn F n P Q a w := h w rfl
theorem Blk.outl {L : List Nat} {W w : World} {b : Nat} {c : Array Value} {t : TypeId} (h : Blk W b c t) (ho : OutL L W w) (hb : b ∉ L) : Blk w b c t := (ho.block b h.lt hb).trans h
theorem Values_is (ao : Option Addr) (n cap : Nat) (w : World) :
    Calls Try.prog 18 #[.slice ao n cap] w fun e w' => e = .returned (.func (.func 34) #[] #[ptr w.heap.size 0]) ∧ Blk w' w.heap.size #[.slice ao n cap] 22 ∧ Below w.heap.size w w' := by
  go_enter Try.func18, Try.ntmps18
  go_wp2
  go_ret
  exact ⟨rfl, Blk.new _ _ _, below_a1 _ _⟩
def vaE (L : List PP) (k : Nat) : Array Value := #[pI (gP L k).1 (gP L k).2]
set_option maxRecDepth 100000 in
set_option maxHeartbeats 2000000 in
theorem Values1_any (m lid bs B : Nat) (ao : Option Addr) (n cap : Nat) (L : List PP) (hL : L.length = n) (hn : n ≤ 4096) (I : (Nat → Prop) → Nat → World → Prop) (Ix : Nat → World → Prop)
    (hm : ∀ G k W, I G k W → Blk W bs #[.slice ao n cap] 22 ∧ Pts W ao n cap (fun i => (gP L i).1) (fun i => (gP L i).2)) (hst : ∀ G k W W', I G k W → BelowX B G W W' → I G k W')
    (hY : ∀ G k W, k < n → I G k W → YieldAt Fence.wide m Try.prog lid (vaE L k) W fun e W' => ((e = .returned (.bool true) ∧ ∃ G', (∀ g, G' g → G g ∨ W.heap.size ≤ g) ∧ I G' (k + 1) W') ∨ (e = .returned (.bool false) ∧ Ix (k + 1) W')) ∧ AboveX B G W W')
    (W : World) (hB : B ≤ W.heap.size) (h0 : I (fun _ => False) 0 W) :
    CallsIn Fence.wide (m + 1) Try.prog 34 #[.func (.yield lid) #[] #[], ptr bs 0] W fun e W' => (∃ v, e = .returned v) ∧ ((∃ G, I G n W') ∨ ∃ k, k ≤ n ∧ Ix k W') := by
  refine callsIn_of_wp Try.func34 rfl trivial ?_ rfl
  simp only [Try.ntmps34, List.size_toArray, List.length_cons, List.length_nil, Nat.reduceAdd, Nat.reduceSub, Array.replicate_succ, Array.replicate_zero, List.push_toArray, List.append_toArray, List.nil_append, List.cons_append]
  obtain ⟨ks, hp⟩ := hm _ 0 W h0
  have hcl := hp.capl
  have hcb := hp.capb
  have b0 := ks.cell 0
  have l0 := ks.lt
  simp only [List.getElem?_toArray, List.getElem?_cons_zero] at b0
  have HH := Lib.hid (And.intro hm (And.intro hst hY))
  have H0 := Lib.hid h0
  clear hm hst hY h0 hp ks
  gi_wp2_with fail
  gi_loopg [7] n (fun gk s7 wr => ∃ k : Nat, s7 = .int .i64 k ∧ k ≤ n ∧ n - k ≤ gk ∧ Hid (∃ G, I G k wr) ∧ B ≤ wr.heap.size)
  case atStart => exact ⟨0, rfl, Nat.zero_le _, Nat.le_refl _, Lib.hid ⟨_, H0.out⟩, hB⟩
  case round =>
    clear H0 hB b0 l0
    obtain ⟨k, rfl, hk, hgk, HI, hB2⟩ := hrel
    obtain ⟨G, HI⟩ := HI.out
    have HI := Lib.hid HI
    by_cases hlt : k < n
    · obtain ⟨ks, hp⟩ := HH.out.1 _ k wr HI.out
      obtain ⟨a, rfl, p0, p1⟩ := hp.at (Below.refl _ _) hlt
      obtain ⟨px, hpx⟩ : ∃ x, (gP L k).1 = x := ⟨_, rfl⟩
      obtain ⟨py, hpy⟩ : ∃ x, (gP L k).2 = x := ⟨_, rfl⟩
      have hE : vaE L k = #[pI px py] := by unfold vaE; rw [hpx, hpy]
      rw [hpx] at p0
      rw [hpy] at p1
      have HE := Lib.hid hE
      have hIV := HH.out.2.1 _ k wr (wr.alloc (.cells #[.int .i64 px, .int .i64 py] 25)) HI.out (.all ((Below.refl _ _).alloc (Nat.le_refl _) _) hB2)
      obtain ⟨fn, tmps, assign, body, hy, hR⟩ := HH.out.2.2 _ k _ hlt hIV
      rw [HE.out] at hy
      have hBV : B ≤ (wr.alloc (.cells #[.int .i64 px, .int .i64 py] 25)).heap.size := by simp; omega
      have HBV := Lib.hid hBV
      clear ks hp hE hIV HI hBV hpx hpy
      gi_wp2
      refine hR.mono ?_
      rintro e W3 ⟨(⟨rfl, G3, _, hI3⟩ | ⟨rfl, hx3⟩), hab⟩
      · have HI3 : Hid (∃ G, I G (k + 1) W3) := Lib.hid ⟨_, hI3⟩
        have hB3 : B ≤ W3.heap.size := Nat.le_trans HBV.out hab.size
        clear hI3 hab HBV hy hR p0 p1 hB2
        gi_wp2_with fail
        gi_roundg (n - (k + 1))
        case measure => omega
        case rel => exact ⟨k + 1, by norm_cast, by omega, Nat.le_refl _, HI3, hB3⟩
      · have HX := Lib.hid hx3
        have hkl : k + 1 ≤ n := by omega
        clear hx3 hab HBV hy hR p0 p1 hB2
        gi_wp2
        refine bodyPost_ret (results_none rfl _ _ _) rfl ?_
        exact ⟨⟨_, rfl⟩, .inr ⟨k + 1, hkl, HX.out⟩⟩
    · have hkl : k = n := by omega
      have HF := Lib.hid (show ∃ G, I G n wr by rw [← hkl]; exact ⟨_, HI.out⟩)
      clear HI
      gi_wp2
      go_end0
      exact ⟨⟨_, rfl⟩, .inl HF.out⟩
theorem Values1_tells (bs : Nat) (ao : Option Addr) (n cap : Nat) (L : List PP) (hL : L.length = n) (hn : n ≤ 4096) (B : Nat) :
    TellsX Try.prog 34 #[ptr bs 0] n (vaE L) B (fun W => Blk W bs #[.slice ao n cap] 22 ∧ Pts W ao n cap (fun i => (gP L i).1) (fun i => (gP L i).2)) :=
  fun m lid I Ix hK _ hst _ hY W hB h0 => Values1_any m lid bs B ao n cap L hL hn I Ix hK hst hY W hB h0
end Go.Proofs.Ytdcihglpfchcmaa

namespace Go.Proofs.Ytdcihglpfchcmaa
open Go.RowKit Go.Shelf
attribute [local go_sem] Oper.semAt_some

set_option maxRecDepth 100000 in
set_option maxHeartbeats 2000000 in
theorem AppendSeq_is (bs : Nat) (ao : Option Addr) (cap0 : Nat) (L : List PP) (hlen : L.length ≤ 4096) (w : World) (h : Pts w ao L.length cap0 (fun i => (gP L i).1) (fun i => (gP L i).2)) (hbs : Blk w bs #[.slice ao L.length cap0] 22) :
    Calls Try.prog 46 #[.slice none 0 0, .func (.func 34) #[] #[ptr bs 0]] w fun e w' => ∃ v, e = .returned v ∧ OL w' w.heap.size v L ∧ Below w.heap.size w w' := by
  have HS := Lib.hid h
  have HLN := Lib.hid hlen
  have HBS := Lib.hid hbs
  have lbs := hbs.lt
  clear h hbs
  refine (callsIn_wide (n := 3)).1 ?_
  refine callsIn_of_wp_marks Try.func46 rfl trivial ?_ rfl
  simp only [Try.ntmps46, List.size_toArray, List.length_cons, List.length_nil, Nat.reduceAdd, Nat.reduceSub, Array.replicate_succ, Array.replicate_zero, List.push_toArray, List.append_toArray, List.nil_append, List.cons_append]
  gi_wp2_with fail
  refine nameIn ?_
  intro V2 hV
  have kO2 : Blk V2 w.heap.size #[.slice none 0 0] 22 := by rw [hV]; exact Blk.new w _ _
  have hbw2 : Below w.heap.size w V2 := by rw [hV]; exact below_a1 _ _
  have kS : Blk V2 bs #[.slice ao L.length cap0] 22 := HBS.out.of hbw2
  have S2 := Lib.hid (HS.out.of hbw2)
  have z1 := kO2.lt
  have z2 := kS.lt
  obtain ⟨ob, eob⟩ : ∃ b, w.heap.size = b := ⟨_, rfl⟩
  have o1 : bs < ob := by omega
  have o2 : w.heap.size ≤ ob := by omega
  have o3 : ob < V2.heap.size := by omega
  rw [eob] at kO2
  rw [show w.heap.size = ob from eob]
  clear hV eob z1
  have hwV := hbw2.size
  refine wpIn_rangeX (m := 1) (gf := 34) (lb := #[ptr bs 0]) (N := L.length) (encs := vaE L) (Kp := fun W => Blk W bs #[.slice ao L.length cap0] 22 ∧ Pts W ao L.length cap0 (fun i => (gP L i).1) (fun i => (gP L i).2)) rfl (fun args w => by go_simp) (Values1_tells bs ao L.length cap0 L rfl hlen _) (fun _ => rfl)
    (fun G k W => ∃ v, Blk W ob #[v] 22 ∧ OL W (V2.heap.size + 2) v (L.take k) ∧ Blk W bs #[.slice ao L.length cap0] 22 ∧ Below w.heap.size w W ∧ ∀ g, G g ↔ v.ownBlock = some g)
    (fun _ _ _ => False) ?hg ?stable (fun _ _ _ _ h _ => h.elim) ?keeps ?start ?round ?done (fun _ _ _ _ _ h _ => h.elim)
  case hg =>
    rintro G k W ⟨v, j1, j2, j3, j4, j5⟩ g hg
    exact j2.lt ((j5 g).1 hg)
  case stable =>
    rintro G k W W' ⟨v, j1, j2, j3, j4, j5⟩ ⟨hbl, hbg⟩
    exact ⟨v, j1.below hbl (by omega), j2.of fun g hg => hbg g ((j5 g).2 hg) (j2.lt hg).2, j3.below hbl (by omega), j4.trans (hbl.mono (by omega)), j5⟩
  case keeps =>
    rintro G k W ⟨v, j1, j2, j3, j4, j5⟩
    exact ⟨j3, HS.out.of j4⟩
  case start => exact ⟨_, kO2, OL.nil _ _, kS, hbw2, fun g => ⟨fun h => h.elim, fun h => by cases h⟩⟩
  case round =>
    rintro l2 D2 k G W2 hk ⟨v, j1, j2, j3, j4, j5⟩ g1 g2 g3 g4
    obtain ⟨⟨a, b⟩, hx⟩ : ∃ x, L[k]? = some x := ⟨_, List.getElem?_eq_getElem hk⟩
    have hE : vaE L k = #[pI a b] := by unfold vaE gP; rw [List.getD_eq_getElem?_getD, hx]; rfl
    rw [hE]
    have JJ := Lib.hid (And.intro j1 (And.intro j2 (And.intro j3 (And.intro j4 j5))))
    have HX := Lib.hid hx
    clear j1 j2 j3 j4 j5 hE hx
    gi_wp2_with fail
    have ha1 := below_a1 W2 (.cells #[.int .i64 a, .int .i64 b] 25)
    refine ⟨⟨⟨ha1.block _ g3, ha1.block _ g4⟩, .ofAbove (.ofBelow ha1)⟩, ?_⟩
    intro W3 hW3
    obtain ⟨j1, j2, j3, j4, j5⟩ := JJ.out
    have kT : Blk W3 W2.heap.size #[.int .i64 a, .int .i64 b] 25 := (Blk.new W2 _ _).outl hW3 (by simp; omega)
    have kO3 : Blk W3 ob #[v] 22 := (j1.of ha1).outl hW3 (by simp; omega)
    have KS3 := Lib.hid (show Blk W3 bs #[.slice ao L.length cap0] 22 from (j3.of ha1).outl hW3 (by simp; omega))
    have T3 : OL W3 (V2.heap.size + 2) v (L.take k) := j2.of fun g hg => by
      have := j2.lt hg
      exact (hW3.block g (by simp; omega) (by simp; omega)).trans (ha1.block g this.2)
    have B3 := Lib.hid (show Below w.heap.size w W3 from (j4.trans (ha1.mono (by have := j4.size; omega))).trans (hW3.below (by have := j4.size; simp; omega) (by simp; omega)))
    have hl : (L.take k).length = k := by rw [List.length_take]; omega
    unfold OL at T3
    rw [hl] at T3
    have T3L := Lib.hid T3
    have x0 := kO3.cell 0
    have t0 := kT.cell 0
    have t1 := kT.cell 1
    simp only [List.getElem?_toArray, List.getElem?_cons_zero, List.getElem?_cons_succ] at x0 t0 t1
    have lO := kO3.lt
    have lT := kT.lt
    have KO3 := Lib.hid kO3
    have J5 := Lib.hid j5
    have hsz3 : V2.heap.size + 2 ≤ W3.heap.size := by have := hW3.size; simp at this; omega
    obtain ⟨i0, hi, hz0, hz1, hz2⟩ := info_parts info_pt
    clear j1 j2 j3 j4 j5 JJ kT kO3 hl ha1 hW3
    have hown := own_belowT T3L.out (below_a1 W3 (.cells #[.int .i64 a, .int .i64 b] 25))
    gi_wp2_with (gi_at_builtin; go_loud (refine wpListIn_append_own_at _ rfl _ _ 22 rfl (V2.heap.size + 2) 25 i0 (.agg #[.int .i64 0, .int .i64 0]) 2 16 Try.underlying22 hi hz0 hz1 hz2 rfl (by decide) v k (flP (L.take k)) rfl hown ⟨W3.heap.size, 0, none⟩ 1 1 [.int .i64 a, .int .i64 b] rfl rfl ?c1 ?c2 ?c3 ?c4 ?c5 ?_))
    case c1 =>
      intro j u hj
      match j, hj with
      | 0, hj => simp at hj; subst hj; exact (Blk.new W3 _ _).cell 0
      | 1, hj => simp at hj; subst hj; exact (Blk.new W3 _ _).cell 1
      | j + 2, hj => simp at hj
    case c2 => intro u hu; simp at hu; rcases hu with rfl | rfl <;> rfl
    case c3 => unfold maxLen; have := HLN.out; omega
    case c4 => have := HLN.out; omega
    case c5 => simp; omega
    intro v1 w1 own1 gr1 _ hat
    obtain ⟨aa, ll, cc, hv1⟩ : ∃ aa ll cc, v1 = .slice aa ll cc := by rcases own1.2 with ⟨e, _⟩ | ⟨g, cap, cur, e, _⟩ <;> exact ⟨_, _, _, e⟩
    subst hv1
    have hsa : (W3.alloc (.cells #[.int .i64 a, .int .i64 b] 25)).heap.size = W3.heap.size + 1 := by simp
    have hown2 : ∀ g, v.ownBlock = some g → V2.heap.size + 2 ≤ g := fun g hg => (World.ownsRow.lt T3L.out g hg).1
    have hW1 : ∀ g, g < W3.heap.size → v.ownBlock ≠ some g → w1.heap[g]? = W3.heap[g]? := fun g h1 h2 => (gr1.block g (by omega) (fun e => h2 e.symm)).trans ((below_a1 W3 _).block g h1)
    have hWf : ∀ g, g ≠ ob → (w1.setCell ⟨ob, 0, none⟩ (.slice aa ll cc)).heap[g]? = w1.heap[g]? := fun g h => Below.heap_setCell w1 ⟨ob, 0, none⟩ (.slice aa ll cc) g h
    have hss : W3.heap.size ≤ w1.heap.size := by have := gr1.size; omega
    have hsf : (w1.setCell ⟨ob, 0, none⟩ (.slice aa ll cc)).heap.size = w1.heap.size := by simp [World.setCell]
    have KO1 : Blk w1 ob #[v] 22 := (hW1 ob lO (fun e => by have := hown2 _ e; omega)).trans KO3.out
    have x1 := KO1.cell 0
    have f1 := KO1.free 0
    have l1 := KO1.lt
    simp only [List.getElem?_toArray, List.getElem?_cons_zero] at x1
    have GG : Hid ((Fix2 l2 D2 W3 (w1.setCell ⟨ob, 0, none⟩ (.slice aa ll cc)) ∧ ∃ G' : Nat → Prop, (∀ g, G' g → G g ∨ W3.heap.size ≤ g) ∧ ∃ v, Blk (w1.setCell ⟨ob, 0, none⟩ (.slice aa ll cc)) ob #[v] 22 ∧ OL (w1.setCell ⟨ob, 0, none⟩ (.slice aa ll cc)) (V2.heap.size + 2) v (L.take (k + 1)) ∧ Blk (w1.setCell ⟨ob, 0, none⟩ (.slice aa ll cc)) bs #[.slice ao L.length cap0] 22 ∧ Below w.heap.size w (w1.setCell ⟨ob, 0, none⟩ (.slice aa ll cc)) ∧ ∀ g, G' g ↔ v.ownBlock = some g) ∧ AboveX (V2.heap.size + 2) G W3 (w1.setCell ⟨ob, 0, none⟩ (.slice aa ll cc))) := by
      have fx : ∀ g, g < W3.heap.size → v.ownBlock ≠ some g → g ≠ ob → (w1.setCell ⟨ob, 0, none⟩ (.slice aa ll cc)).heap[g]? = W3.heap[g]? := fun g h1 h2 h3 => (hWf g h3).trans (hW1 g h1 h2)
      have nO : ∀ g, g < V2.heap.size + 2 → v.ownBlock ≠ some g := fun g h e => by have := hown2 g e; omega
      refine Lib.hid ⟨⟨⟨fx l2 (by omega) (nO _ (by omega)) (by omega), fx D2 (by omega) (nO _ (by omega)) (by omega)⟩, fun g => (Value.slice aa ll cc).ownBlock = some g, fun g hg => ?_, .slice aa ll cc, KO1.put 0 (.slice aa ll cc), ?_, (fx bs KS3.out.lt (nO _ (by omega)) (by omega)).trans KS3.out, ?_, fun g => Iff.rfl⟩, ?_⟩
      · rcases hat with e | e
        · exact .inl ((J5.out g).2 (by rw [← e]; exact hg))
        · rw [e] at hg; injection hg with hg; exact .inr (by omega)
      · have h1 : OL w1 (V2.heap.size + 2) (.slice aa ll cc) (L.take (k + 1)) := by
          have e : L.take (k + 1) = L.take k ++ [(a, b)] := by rw [List.take_add_one, HX.out]; rfl
          unfold OL
          rw [e, flP_app, List.length_append, List.length_take, show min k L.length = k by omega]
          exact own1
        exact h1.of fun g hg => hWf g (by have := (h1.lt hg).1; omega)
      · have gb : Below w.heap.size W3 (w1.setCell ⟨ob, 0, none⟩ (.slice aa ll cc)) := ⟨gr1.os, gr1.tape, gr1.output, by omega, fun g hg => fx g (by omega) (nO g (by omega)) (by omega)⟩
        exact B3.out.trans gb
      · exact ⟨by omega, fun g h1 h2 h3 => fx g h2 (fun e => h3 ((J5.out g).2 e)) (by omega)⟩
    clear own1 gr1 hat hown hsa hW1 hWf KO1 x0 t0 t1 T3L
    gi_wp2
    exact GG.out
  case done =>
    rintro Dd G V5 g1 ⟨v, j1, j2, j3, j4, j5⟩ hD
    have c0 := j1.cell 0
    simp only [List.getElem?_toArray, List.getElem?_cons_zero] at c0
    rw [List.take_length] at j2
    have l0 := j1.lt
    have JJ := Lib.hid (And.intro j2 j4)
    clear j1 j2 j3 j4 j5
    gi_wp2
    refine ⟨by simp, .inl ⟨_, _, rfl, run_takeDeferred hD, ?_⟩⟩
    simp only [LeavesInM, LeavesIn]
    refine ⟨v, by simp [results, Try.results46, go_sem], v, rfl, ?_, ?_⟩
    · have h1 : OL (V5.putObj Dd (.deferred none)) (V2.heap.size + 2) v L := JJ.out.1.of fun g hg => World.putObj_heap_other (by have := (JJ.out.1.lt hg).1; omega)
      rcases h1.2 with h2 | ⟨g, cap, cur, e1, e2, e3, e4⟩
      · exact ⟨h1.1, .inl h2⟩
      · exact ⟨h1.1, .inr ⟨g, cap, cur, e1, by omega, e3, e4⟩⟩
    · exact JJ.out.2.trans ((putObj_out V5 Dd _).below (by have := JJ.out.2.size; omega) (by simp; omega))
theorem Collect_is (bs : Nat) (ao : Option Addr) (cap0 : Nat) (L : List PP) (hlen : L.length ≤ 4096) (w : World) (h : Pts w ao L.length cap0 (fun i => (gP L i).1) (fun i => (gP L i).2)) (hbs : Blk w bs #[.slice ao L.length cap0] 22) :
    Calls Try.prog 32 #[.func (.func 34) #[] #[ptr bs 0]] w fun e w' => ∃ v, e = .returned v ∧ OL w' w.heap.size v L ∧ Below w.heap.size w w' := by
  go_enter Try.func32, Try.ntmps32
  go_wp2_with fail
  refine (AppendSeq_is bs ao cap0 L hlen w h hbs).mono ?_
  rintro e w2 ⟨v, rfl, h1, h2⟩
  go_wp2
  go_ret
  exact ⟨v, rfl, h1, h2⟩
end Go.Proofs.Ytdcihglpfchcmaa

namespace Go.Proofs.Ytdcihglpfchcmaa
open Go.RowKit Go.Shelf

set_option maxRecDepth 100000 in
set_option maxHeartbeats 2000000 in
theorem insert_none (fv : Value) (w : World) : Calls Try.prog 61 #[.slice none 0 0, .int .i64 0, .int .i64 0, fv] w fun e w' => e = .returned (.tuple #[]) ∧ w' = w := by
  go_enter Try.func61, Try.ntmps61
  go_wp2
  refine wp_loop_rounds 1 ?_
  rw [rounds_succ]
  go_wp2
  go_end0
  exact ⟨rfl, rfl⟩
set_option maxRecDepth 100000 in
set_option maxHeartbeats 2000000 in
theorem pdq_none (lim : Int) (fv : Value) (w : World) : Calls Try.prog 47 #[.slice none 0 0, .int .i64 0, .int .i64 0, .int .i64 lim, fv] w fun e w' => e = .returned (.tuple #[]) ∧ w' = w := by
  go_enter Try.func47, Try.ntmps47
  go_wp2
  refine wp_loop_rounds 1 ?_
  rw [rounds_succ]
  go_wp2_with (go_at_call 61; refine (insert_none _ _).mono ?_; rintro e w' ⟨rfl, rfl⟩)
  (try simp only [Exit.inBlock, Exit.then])
  refine bodyPost_ret (results_none rfl _ _ _) rfl ?_
  exact ⟨rfl, rfl⟩
set_option maxRecDepth 100000 in
set_option maxHeartbeats 2000000 in
theorem SortFunc_none (fv : Value) (w : World) : Calls Try.prog 33 #[.slice none 0 0, fv] w fun e w' => e = .returned (.tuple #[]) ∧ w' = w := by
  have hl : ∀ W, Calls Try.prog 48 #[.int .u64 0] W fun e w' => e = .returned (.int .i64 (Lib.bitLen 0 : Nat)) ∧ w' = W := fun W => by
    have L := Try.sortP
    have h := Any.bits_Len (SlLaysF0.n15.bits (P := Try.prog) (ρ := Try.sortP_ren) { L with }) 0 W (by omega) (by omega)
    exact h
  go_enter Try.func33, Try.ntmps33
  go_wp2_with (first | (go_at_call 48; refine (hl _).mono ?_; rintro e w' ⟨rfl, rfl⟩) | (go_at_call 47; refine (pdq_none _ _ _).mono ?_; rintro e w' ⟨rfl, rfl⟩))
  go_end0
  exact ⟨rfl, rfl⟩
theorem Compact_none (w : World) : Calls Try.prog 16 #[.slice none 0 0] w fun e w' => e = .returned (.slice none 0 0) ∧ w' = w := by
  go_enter Try.func16, Try.ntmps16
  go_wp2
  go_ret
  exact ⟨rfl, rfl⟩
set_option maxRecDepth 100000 in
set_option maxHeartbeats 2000000 in
theorem SortedFunc_is (bs : Nat) (ao : Option Addr) (cap0 : Nat) (L : List PP) (hlen : L.length ≤ 4096) (w : World) (h : Pts w ao L.length cap0 (fun i => (gP L i).1) (fun i => (gP L i).2)) (hbs : Blk w bs #[.slice ao L.length cap0] 22) :
    Calls Try.prog 17 #[.func (.func 34) #[] #[ptr bs 0], .func (.func 14) #[] #[]] w fun e w' => ∃ (v : Value) (L' : List PP), e = .returned v ∧ L'.Perm L ∧ (∀ i j, i < j → j < L'.length → ahP (gP L' j) (gP L' i) = false) ∧ OL w' w.heap.size v L' ∧ Below w.heap.size w w' := by
  have HL := Lib.hid hlen
  go_enter Try.func17, Try.ntmps17
  go_wp2_with fail
  refine (Collect_is bs ao cap0 L hlen w h hbs).mono ?_
  rintro e w2 ⟨v, rfl, h1, h2⟩
  clear h hbs hlen
  rcases h1.row with ⟨rfl, rfl⟩ | ⟨g, cap, rfl, hb, hr⟩
  · clear h1
    go_wp2_with fail
    refine (SortFunc_none _ _).mono ?_
    rintro e w3 ⟨rfl, rfl⟩
    go_wp2
    go_ret
    exact ⟨_, [], rfl, List.Perm.refl _, fun i j _ hj => by simp at hj, OL.nil _ _, h2⟩
  · clear h1
    obtain ⟨n, hn⟩ : ∃ n, L.length = n := ⟨_, rfl⟩
    have HN := Lib.hid hn
    rw [hn] at hr HL ⊢
    have HRR := Lib.hid hr
    have H2 := Lib.hid h2
    clear hn hr h2
    go_wp2_with fail
    refine (SortFunc_is w2 g cap n L HN.out HRR.out HL.out).mono ?_
    rintro e w3 ⟨rfl, L', hp, hs, hr3, hg3⟩
    have HF : Hid (L'.Perm L ∧ (∀ i j, i < j → j < L'.length → ahP (gP L' j) (gP L' i) = false) ∧ OL w3 w.heap.size (.slice (some ⟨g, 0, none⟩) n cap) L' ∧ Below w.heap.size w w3) := Lib.hid ⟨hp, hs, hr3.list L' hb (by rw [hp.length_eq, HN.out]) (fun _ _ => rfl), H2.out.grown hg3 H2.out.size (fun k hk => by injection hk with hk; omega)⟩
    clear hp hs hr3 hg3
    go_wp2
    go_ret
    exact ⟨_, L', rfl, HF.out⟩
end Go.Proofs.Ytdcihglpfchcmaa

namespace Go.Proofs.Ytdcihglpfchcmaa
open Go.RowKit Go.Shelf

theorem RowP.src {w : World} {g cap j : Nat} {M : List PP} (h : RowP w g cap j (gP M)) (hM : M.length = j) (i : Nat) (u : Value) (hu : (flP M)[i]? = some u) : w.cell? ((⟨g, 0, none⟩ : Addr).add i) = some u := by
  rw [add_pl, Nat.zero_add]
  have hi := (List.getElem?_eq_some_iff.1 hu).1
  rw [flP_len] at hi
  have hk : i / 2 < M.length := by omega
  have a := h.cell (k := i / 2) (by omega)
  have b := flP_at M (i / 2) hk
  rcases Nat.mod_two_eq_zero_or_one i with e | e
  · have e2 : i = i / 2 * 2 := by omega
    rw [e2] at hu ⊢
    rw [a.1, ← b.1, hu]
  · have e2 : i = i / 2 * 2 + 1 := by omega
    rw [e2] at hu ⊢
    rw [a.2, ← b.2, hu]
theorem wpList_append_oo {w : World} {ops : Array Oper} {rest : List Oper} {o : Oper} {a : Act} {Q : Exit → Act → World → Prop} (hgd : o.guard = none) (s x : Operand)
    (ho : o.op = .call { callee := .builtin .append, args := #[s, x], argTypes := #[22, 22] })
    (base : Nat) (v : Value) (L : List PP) (hs : a.eval s = v) (g j c : Nat) (M : List PP) (hx : a.eval x = .slice (some ⟨g, 0, none⟩) j c) (hM : M.length = j) (hr : RowP w g c j (gP M))
    (hpb : OL w base v L) (hk : L.length + j < 10000) (hb : base ≤ w.heap.size)
    (h : ∀ v' w', OL w' base v' (L ++ M) → w.grownBy w' v.ownBlock → wpList Try.prog ops Q rest (a.put o.dst v') w') : wpList Try.prog ops Q (o :: rest) a w := by
  obtain ⟨i0, hi, hz0, hz1, hz2⟩ := info_parts info_pt
  refine wpList_append_own w hgd s x _ ho base 25 i0 (Value.agg #[.int .i64 0, .int .i64 0]) 2 16 Try.underlying22 hi hz0 hz1 hz2 rfl (by decide) v L.length _ hs hpb ⟨g, 0, none⟩ j c (flP M) hx (by rw [flP_len, hM]) (hr.src hM) (flP_one M) (by unfold maxLen; omega) (by omega) hb ?_
  intro v' w' o1 gr _
  refine h v' w' ?_ gr
  unfold OL
  rw [flP_app, List.length_append, hM]; exact o1
theorem hchain_pos {L : List PP} (h : 0 < L.length) : 0 < (hchain tP (0, 0) L).length := by
  rw [← chK_all]
  obtain ⟨k, hk⟩ : ∃ k, L.length = k + 1 := ⟨L.length - 1, by omega⟩
  rw [hk, chK_succ L k (by omega)]
  unfold hpush; simp
theorem hchain_len (L : List PP) : (hchain tP (0, 0) L).length ≤ L.length := by
  rw [← chK_all]; exact chK_len L _ (Nat.le_refl _)
theorem cpt_mem {L : List PP} : ∀ r, r ≤ L.length → ∀ p, p ∈ cpt L r → p ∈ L
  | 0, _, p, h => by simp [cpt] at h
  | r + 1, hr, p, h => by
    unfold cpt at h
    split at h
    · exact cpt_mem r (by omega) p h
    · rcases List.mem_append.1 h with h | h
      · exact cpt_mem r (by omega) p h
      · rw [List.mem_singleton.1 h]; exact gP_mem (by omega)
theorem allC_rp {L : List PP} (h : allC L.length (fun i => (gP L i).1) (fun i => (gP L i).2) = true) : ∀ p, p ∈ L → rpP p = true := by
  intro p hp
  obtain ⟨i, hi⟩ := List.mem_iff_getElem?.1 hp
  have hl := (List.getElem?_eq_some_iff.1 hi).1
  have e : gP L i = p := by unfold gP; rw [List.getD_eq_getElem?_getD, hi]; rfl
  have := List.all_eq_true.1 h i (List.mem_range.2 hl)
  rw [← e]
  exact this
theorem Hull_no (ao : Option Addr) (n cap : Nat) (X Y : Nat → Int) (w : World) (h : Pts w ao n cap X Y) (hn : n ≤ 60) (hg : allC n X Y = false) :
    Calls Try.prog 7 #[.slice ao n cap] w fun e w' => e = .returned (.tuple #[.slice none 0 0, .bool false]) ∧ Below w.heap.size w w' := by
  have hcl := h.capl
  have hcb := h.capb
  have HG := Lib.hid hg
  have HO := Lib.hid h
  clear h hg
  have hq : ¬ 4096 < n := by omega
  go_enter Try.func7, Try.ntmps7
  go_wp2_with fail
  refine (ptright_any ao n cap X Y w HO.out).mono ?_
  rintro e W2 ⟨rfl, hn2⟩
  rw [HG.out]
  go_wp2
  simp [bodyPost, results, Try.results7, go_sem]
  exact hn2
set_option maxRecDepth 100000 in
set_option maxHeartbeats 4000000 in
theorem Hull_ok (ao : Option Addr) (n cap : Nat) (L : List PP) (hL : L.length = n) (w : World) (h : Pts w ao n cap (fun i => (gP L i).1) (fun i => (gP L i).2)) (hn : n ≤ 60) (hg : allC n (fun i => (gP L i).1) (fun i => (gP L i).2) = true) :
    Calls Try.prog 7 #[.slice ao n cap] w fun e w' => ∃ (v : Value) (h : List PP), e = .returned (.tuple #[v, .bool true]) ∧ HSpec L h ∧ h.length ≤ 200 ∧ OL w' w.heap.size v h ∧ Below w.heap.size w w' := by
  subst hL
  have hcl := h.capl
  have hcb := h.capb
  have HR := Lib.hid (allC_rp hg)
  have HG := Lib.hid hg
  have HO := Lib.hid h
  have HN60 := Lib.hid hn
  obtain ⟨n, hn0⟩ : ∃ n, L.length = n := ⟨_, rfl⟩
  have HN := Lib.hid hn0
  rw [hn0] at hn hcl HG HO HN60 ⊢
  clear h hg hn0
  have hq : ¬ 4096 < n := by omega
  go_enter Try.func7, Try.ntmps7
  go_wp2_with fail
  refine (ptright_any ao n cap _ _ w HO.out).mono ?_
  rintro e W1 ⟨rfl, hb1⟩
  rw [HG.out]
  have HB1 := Lib.hid hb1
  have HO1 := Lib.hid (HO.out.of hb1)
  clear hb1 HO
  go_wp2_with fail
  refine (Values_is ao n cap W1).mono ?_
  rintro e W2 ⟨rfl, ks, hb2⟩
  have HK2 := Lib.hid ks
  have HO2 := Lib.hid (HO1.out.of hb2)
  have HB2 := Lib.hid (HB1.out.trans (hb2.mono HB1.out.size))
  obtain ⟨bs, ebs⟩ : ∃ b, W1.heap.size = b := ⟨_, rfl⟩
  rw [ebs] at HK2 ⊢
  clear ks hb2 HO1 HB1 ebs
  go_wp2_with fail
  refine Calls.mono (show Calls Try.prog 17 _ W2 _ from SortedFunc_is bs ao cap L (by rw [HN.out]; omega) W2 (by rw [HN.out]; exact HO2.out) (by rw [HN.out]; exact HK2.out)) ?_
  rintro e W3 ⟨v, L', rfl, hp, hs, hol, hb3⟩
  have HB3 := Lib.hid (HB2.out.trans (hb3.mono HB2.out.size))
  have HS := Lib.hid (sorted_ok hp hs HR.out)
  have hln : L'.length = n := by rw [hp.length_eq, HN.out]
  have HRM : Hid (∀ p, p ∈ cpt L' L'.length → rpP p = true) := Lib.hid fun p hq => HR.out p (hp.mem_iff.1 (cpt_mem _ (Nat.le_refl _) p hq))
  have hbase : w.heap.size ≤ W2.heap.size := HB2.out.size
  have hol2 := hol.base hbase
  clear hp hs hb3 HO2 HK2 hol HR HG
  rcases hol2.row with ⟨rfl, rfl⟩ | ⟨g, cap3, rfl, hbg, hrow⟩
  · clear hol2
    have HS0 : Hid (HSpec L []) := HS
    clear HS HRM hln
    go_wp2_with fail
    refine (Compact_none _).mono ?_
    rintro e w4 ⟨rfl, rfl⟩
    go_wp2
    simp [bodyPost, results, Try.results7, go_sem]
    exact ⟨[], HS0.out, by simp, OL.nil _ _, HB3.out⟩
  · clear hol2
    have HROW := Lib.hid hrow
    have HLN := Lib.hid hln
    rw [hln] at HROW ⊢
    clear hrow
    go_wp2_with fail
    refine (Compact_is W3 g cap3 n L' HLN.out HROW.out (by omega)).mono ?_
    rintro e W4 ⟨rfl, hr4, hg4⟩
    have HB4 := Lib.hid (HB3.out.grown hg4 HB3.out.size (fun k hk => by injection hk with hk; omega))
    have hle : (cpt L' n).length ≤ n := cpt_len L' n
    obtain ⟨R, hRR⟩ : ∃ R, cpt L' n = R := ⟨_, rfl⟩
    have HS4 : Hid (HSpec L (hullL R)) := Lib.hid (by have := HS.out; rw [HLN.out, hRR] at this; exact this)
    have HRM4 : Hid (∀ p, p ∈ R → rpP p = true) := Lib.hid (by have := HRM.out; rw [HLN.out, hRR] at this; exact this)
    rw [hRR] at hr4 hle ⊢
    obtain ⟨m, hm⟩ : ∃ m, R.length = m := ⟨_, rfl⟩
    rw [hm] at hr4 hle ⊢
    have HM := Lib.hid hm
    have HR4 := Lib.hid hr4
    have hc3 : m ≤ cap3 ∧ cap3 ≤ 9223372036854775807 := by have := hr4.caps; unfold maxLen at this; omega
    obtain ⟨hc31, hc32⟩ := hc3
    clear hr4 hg4 HROW HS HRM hm hRR hln
    by_cases hm2 : m < 2
    · have hmi : (m : Int) < 2 := by omega
      have HF : Hid (HSpec L R ∧ OL W4 w.heap.size (.slice (some ⟨g, 0, none⟩) m cap3) R) := Lib.hid ⟨by have := HS4.out; unfold hullL at this; rw [if_pos (by rw [HM.out]; exact hm2)] at this; exact this, HR4.out.list R hbg HM.out (fun _ _ => rfl)⟩
      clear HS4 HRM4 HR4 hm2
      go_wp2_with fail
      simp [bodyPost, results, Try.results7, go_sem]
      exact ⟨R, HF.out.1, by rw [HM.out]; omega, HF.out.2, HB4.out⟩
    · have hmi : ¬ (m : Int) < 2 := by omega
      have HSF : Hid (HSpec L ((hchain tP (0, 0) R).take ((hchain tP (0, 0) R).length - 1) ++ (hchain tP (0, 0) R.reverse).take ((hchain tP (0, 0) R.reverse).length - 1))) := Lib.hid (by have := HS4.out; unfold hullL at this; rw [if_neg (by rw [HM.out]; exact hm2)] at this; exact this)
      clear HS4
      go_wp2_with fail
      refine (chain_is (some ⟨g, 0, none⟩) m cap3 R W4 HM.out HR4.out.pts (by omega) HRM4.out).mono ?_
      rintro e W5 ⟨v1, rfl, hl1, hb5⟩
      have HR5 := Lib.hid (HR4.out.below hb5)
      have HB5 := Lib.hid (HB4.out.trans (hb5.mono HB4.out.size))
      have hgl := HR4.out.lt
      have H1 := Lib.hid hl1
      clear hl1 hb5 HR4
      go_wp2_with fail
      refine (Reverse_is W5 g cap3 m R HM.out HR5.out (by omega)).mono ?_
      rintro e W6 ⟨rfl, hr6, hg6⟩
      have HR6 := Lib.hid hr6
      have HB6 := Lib.hid (HB5.out.grown hg6 HB5.out.size (fun k hk => by injection hk with hk; omega))
      have H16 : Hid (OL W6 W4.heap.size v1 (hchain tP (0, 0) R)) := Lib.hid (H1.out.of fun k hk => hg6.block k (H1.out.lt hk).2 (fun e => by injection e with e; have := (H1.out.lt hk).1; omega))
      clear hr6 hg6 H1 HR5
      have HM' : Hid (R.reverse.length = m) := Lib.hid (by rw [List.length_reverse, HM.out])
      go_wp2_with fail
      refine (chain_is (some ⟨g, 0, none⟩) m cap3 R.reverse W6 HM'.out HR6.out.pts (by omega) (fun p hp => HRM4.out p (List.mem_reverse.1 hp))).mono ?_
      rintro e W7 ⟨v2, rfl, hl2, hb7⟩
      have HB7 := Lib.hid (HB6.out.trans (hb7.mono HB6.out.size))
      have H17 := Lib.hid (H16.out.below hb7)
      have H27 := Lib.hid hl2
      clear hl2 hb7 H16 HR6
      have hp1 : 0 < (hchain tP (0, 0) R).length := hchain_pos (by rw [HM.out]; omega)
      have hp2 : 0 < (hchain tP (0, 0) R.reverse).length := hchain_pos (by rw [HM'.out]; omega)
      have hq1 := hchain_len R
      have hq2 := hchain_len R.reverse
      rw [HM.out] at hq1
      rw [HM'.out] at hq2
      obtain ⟨lo, hlo⟩ : ∃ l, hchain tP (0, 0) R = l := ⟨_, rfl⟩
      obtain ⟨hi, hhi⟩ : ∃ l, hchain tP (0, 0) R.reverse = l := ⟨_, rfl⟩
      rw [hlo] at hp1 hq1 H17 HSF
      rw [hhi] at hp2 hq2 H27 HSF
      obtain ⟨k1, hk1⟩ : ∃ k, lo.length = k := ⟨_, rfl⟩
      obtain ⟨k2, hk2⟩ : ∃ k, hi.length = k := ⟨_, rfl⟩
      rw [hk1] at hp1 hq1 HSF
      rw [hk2] at hp2 hq2 HSF
      rcases H17.out.row with ⟨_, e⟩ | ⟨g1, c1, rfl, hbg1, hr1⟩
      · rw [e] at hk1; simp at hk1; omega
      rcases H27.out.row with ⟨_, e⟩ | ⟨g2, c2, rfl, hbg2, hr2⟩
      · rw [e] at hk2; simp at hk2; omega
      rw [hk1] at H17 hr1 ⊢
      rw [hk2] at H27 hr2 ⊢
      obtain ⟨j1, hj1⟩ : ∃ j, k1 = j + 1 := ⟨k1 - 1, by omega⟩
      obtain ⟨j2, hj2⟩ : ∃ j, k2 = j + 1 := ⟨k2 - 1, by omega⟩
      have hcc1 : k1 ≤ c1 ∧ c1 ≤ 9223372036854775807 := by have := hr1.caps; unfold maxLen at this; omega
      have hcc2 : k2 ≤ c2 ∧ c2 ≤ 9223372036854775807 := by have := hr2.caps; unfold maxLen at this; omega
      obtain ⟨q1, q2⟩ := hcc1
      obtain ⟨q3, q4⟩ := hcc2
      have q5 : j1 ≤ c1 := by omega
      have q6 : j2 ≤ c2 := by omega
      have q7 : j1 ≤ k1 := by omega
      have q8 : j2 ≤ k2 := by omega
      have e1 : (k1 : Int) - 1 = (j1 : Int) := by omega
      have e2 : (k2 : Int) - 1 = (j2 : Int) := by omega
      have lg1 := hr1.lt
      have lg2 := hr2.lt
      have HLo : Hid (OL W7 w.heap.size (.slice (some ⟨g1, 0, none⟩) j1 c1) (lo.take j1)) := Lib.hid ((H17.out.cut q7).base HB4.out.size)
      have HHi : Hid (RowP W7 g2 c2 j2 (gP (hi.take j2))) := Lib.hid ((hr2.less q8).congr fun k hk => (gP_take hk).symm)
      have HJ : Hid (k1 - 1 = j1 ∧ k2 - 1 = j2 ∧ (lo.take j1).length = j1 ∧ (hi.take j2).length = j2 ∧ j1 ≤ 60 ∧ j2 ≤ 60) := Lib.hid ⟨by omega, by omega, by rw [List.length_take]; omega, by rw [List.length_take]; omega, by omega, by omega⟩
      have HBG : Hid (w.heap.size ≤ g1 ∧ w.heap.size ≤ g2) := Lib.hid ⟨by have := HB4.out.size; omega, by have := HB6.out.size; omega⟩
      clear hr1 hr2 H17 H27 hlo hhi hk1 hk2 hj1 hj2 HRM4 HM HM' hbg1 hbg2
      go_wp2_with fail
      refine wp_region_up W7.heap.size 10 [(true, 0), (true, 1), (true, 2), (true, 3), (true, 4), (true, 5), (true, 6), (true, 7), (true, 8), (true, 9)] (by kernel_rfl) (by kernel_rfl) (fun _ _ d _ _ h => by cases d <;> exact h) ?_
      have hb : Below W7.heap.size W7 W7.drew := (Below.refl _ _).drew
      iterate 10
        first | refine wpS_takeL rfl rfl ?_ | refine wpS_takeB rfl rfl rfl ?_
        first | go_big_quiet_step (rfl) | (go_big_quiet_want; go_big_quiet_op; refine ⟨_, fun _ => rfl, ?_⟩; go_big_quiet_on)
        refine wpQuiet_nil ?_
      refine wpS_nil ?_
      simp only [List.drop_succ_cons, List.drop_zero]
      clear hb
      go_wp2_with (at_builtin; go_loud (refine wpList_append_oo rfl _ _ rfl w.heap.size _ (lo.take j1) rfl g2 j2 c2 (hi.take j2) rfl HJ.out.2.2.2.1 HHi.out HLo.out ?c3 ?c4 ?_))
      case c3 => have := HJ.out; omega
      case c4 => have := HB7.out.size; have h8 : W7.drew.heap.size = W7.heap.size := rfl; omega
      intro v3 W8 hol gr
      have HF : Hid (OL W8 w.heap.size v3 (lo.take j1 ++ hi.take j2) ∧ Below w.heap.size w W8) := Lib.hid ⟨hol, HB7.out.drew.grown gr (by have := HB7.out.size; have h8 : W7.drew.heap.size = W7.heap.size := rfl; omega) (fun k hk => by injection hk with hk; rw [← hk]; exact HBG.out.1)⟩
      clear hol gr HLo HHi HB7
      go_wp2_with fail
      simp [bodyPost, results, Try.results7, go_sem]
      have hx := HSF.out
      rw [HJ.out.1, HJ.out.2.1] at hx
      exact ⟨_, hx, by have := HJ.out; rw [List.length_append]; omega, HF.out.1, HF.out.2⟩
end Go.Proofs.Ytdcihglpfchcmaa

