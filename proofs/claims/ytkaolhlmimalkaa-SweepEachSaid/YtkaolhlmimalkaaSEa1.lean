/- My texts Bs1, Bs2, Bs3, Bs4, Bs5, Bs6, joined: what the last one needs of them. Conditions: as each lemma says. -/
import Derived.KernelRfl
import Derived.StillTail
import Derived.OrdersHeld
import Derived.Deep.Quiet
import Derived.Below
import Derived.WalkKit
import Derived.Test.YtkaolhlmimalkaaProg
import Derived.WalkSpells
import Derived.StillTactics
import Derived.Laws.Pointers
import Derived.Deep.RegionHeld3
import Derived.RowKit3
import Derived.Deep.QuietTactic
import Derived.BigQuiet
import Derived.BigRegion
import Derived.Lib.Hide
import Derived.WalkSmall
import Derived.Laws.BitsAllLaws
import Derived.IntWalk
import Derived.Deep.OwnRows
import Derived.Deep.LoopGhost
import Derived.Shelf.Bits.Mul64
import Derived.Deep.DeepFit
import Derived.Deep.DeepCutAuto
import Derived.OwnWalk
import Derived.RangeFuncNested
import Derived.RangeFuncBound
import Derived.RangeFuncCalls
import Derived.RangeFuncLeaves
import Derived.Shelf.Abstract
import Derived.Shelf.RegionOpen
import Derived.OwnWalkIn
import Derived.TacticsInMore
import Derived.LoopNIn
import Derived.LoopIn
import Derived.Sort.LoopGhostIn
import Derived.Deep.DeepAppendRoom
import Derived.Deep.MidRow
import Derived.Laws.CopyOwn
import Derived.Laws.AppendOwn
import Derived.Lib.AppendZerosOnto
import Derived.Lib.Overlaps
import Derived.Laws.AppendOwnNone
import Derived.Maps.OwnIn
import Derived.ProofKit
import Derived.OpenShut
import Derived.ShutString
import Derived.ChangeOld
import Derived.Lib.SmallJoins
import Derived.Laws.IdiomArrays
import Derived.Deep.SlicePairs
namespace Go.Proofs.Ytkaolhlmimalkaa

/-- 2^64, 2^128, 2^192, 2^256 and 2^255, 2^63 behind names. -/
def b64 : Int := 18446744073709551616
def b128 : Int := 340282366920938463463374607431768211456
def b192 : Int := 6277101735386680763835789423207666416102355444464034512896
def b256 : Int := 115792089237316195423570985008687907853269984665640564039457584007913129639936
def b255 : Int := 57896044618658097711785492504343953926634992332820282019728792003956564819968
/-- the words of a number, in two's complement of any length -/
def wd0 (x : Int) : Int := x % b64
def wd1 (x : Int) : Int := x / b64 % b64
def wd2 (x : Int) : Int := x / b128 % b64
def wd3 (x : Int) : Int := x / b192 % b64
/-- what four words are, without a sign -/
def un4 (a b c d : Int) : Int := a + b * b64 + c * b128 + d * b192

/-- a word -/
structure Wd (x : Int) : Prop where
  lo : 0 ≤ x
  hi : x < 18446744073709551616

theorem wd0_Wd (x : Int) : Wd (wd0 x) := by unfold wd0 b64; constructor <;> omega
theorem wd1_Wd (x : Int) : Wd (wd1 x) := by unfold wd1 b64; constructor <;> omega
theorem wd2_Wd (x : Int) : Wd (wd2 x) := by unfold wd2 b64 b128; constructor <;> omega
theorem wd3_Wd (x : Int) : Wd (wd3 x) := by unfold wd3 b64 b192; constructor <;> omega

theorem un4_wd (x : Int) : un4 (wd0 x) (wd1 x) (wd2 x) (wd3 x) = x % b256 := by
  unfold un4 wd0 wd1 wd2 wd3 b64 b128 b192 b256; omega

theorem wd0_un4 {a b c d : Int} (ha : Wd a) : wd0 (un4 a b c d) = a := by
  obtain ⟨h1, h2⟩ := ha; unfold wd0 un4 b64 b128 b192; omega
theorem wd1_un4 {a b c d : Int} (ha : Wd a) (hb : Wd b) : wd1 (un4 a b c d) = b := by
  obtain ⟨h1, h2⟩ := ha; obtain ⟨h3, h4⟩ := hb; unfold wd1 un4 b64 b128 b192; omega
theorem wd2_un4 {a b c d : Int} (ha : Wd a) (hb : Wd b) (hc : Wd c) : wd2 (un4 a b c d) = c := by
  obtain ⟨h1, h2⟩ := ha; obtain ⟨h3, h4⟩ := hb; obtain ⟨h5, h6⟩ := hc; unfold wd2 un4 b64 b128 b192; omega
theorem wd3_un4 {a b c d : Int} (ha : Wd a) (hb : Wd b) (hc : Wd c) (hd : Wd d) : wd3 (un4 a b c d) = d := by
  obtain ⟨h1, h2⟩ := ha; obtain ⟨h3, h4⟩ := hb; obtain ⟨h5, h6⟩ := hc; obtain ⟨h7, h8⟩ := hd; unfold wd3 un4 b64 b128 b192; omega

theorem un4_bd {a b c d : Int} (ha : Wd a) (hb : Wd b) (hc : Wd c) (hd : Wd d) : 0 ≤ un4 a b c d ∧ un4 a b c d < b256 := by
  obtain ⟨h1, h2⟩ := ha; obtain ⟨h3, h4⟩ := hb; obtain ⟨h5, h6⟩ := hc; obtain ⟨h7, h8⟩ := hd; unfold un4 b64 b128 b192 b256; omega

/-- the number of 256 bits with a sign that a number leaves -/
def sg (x : Int) : Int := (x + b255) % b256 - b255

theorem sg_bd (x : Int) : -b255 ≤ sg x ∧ sg x < b255 := by unfold sg b255 b256; omega
theorem sg_id {x : Int} (h : -b255 ≤ x ∧ x < b255) : sg x = x := by unfold sg b255 b256 at *; omega
theorem wd0_sg (x : Int) : wd0 (sg x) = wd0 x := by unfold wd0 sg b64 b255 b256; omega
theorem wd1_sg (x : Int) : wd1 (sg x) = wd1 x := by unfold wd1 sg b64 b255 b256; omega
theorem wd2_sg (x : Int) : wd2 (sg x) = wd2 x := by unfold wd2 sg b64 b128 b255 b256; omega
theorem wd3_sg (x : Int) : wd3 (sg x) = wd3 x := by unfold wd3 sg b64 b192 b255 b256; omega
theorem wd0_mod (x : Int) : wd0 (x % b256) = wd0 x := by unfold wd0 b64 b256; omega
theorem wd1_mod (x : Int) : wd1 (x % b256) = wd1 x := by unfold wd1 b64 b256; omega
theorem wd2_mod (x : Int) : wd2 (x % b256) = wd2 x := by unfold wd2 b64 b128 b256; omega
theorem wd3_mod (x : Int) : wd3 (x % b256) = wd3 x := by unfold wd3 b64 b192 b256; omega

/-- two numbers have the same four words just if they are the same modulo 2^256 -/
theorem wds_eq {x y : Int} (h0 : wd0 x = wd0 y) (h1 : wd1 x = wd1 y) (h2 : wd2 x = wd2 y) (h3 : wd3 x = wd3 y) : x % b256 = y % b256 := by
  rw [← un4_wd x, ← un4_wd y, h0, h1, h2, h3]

/-- the words of a sum, as the carries make them -/
theorem plus_wd0 (x y c : Int) : wd0 (x + y + c) = (wd0 x + wd0 y + c) % 18446744073709551616 := by unfold wd0 b64; omega
theorem plus_wd1 (x y c : Int) : wd1 (x + y + c) = (wd1 x + wd1 y + (wd0 x + wd0 y + c) / 18446744073709551616) % 18446744073709551616 := by unfold wd0 wd1 b64; omega
theorem plus_wd2 (x y c : Int) : wd2 (x + y + c) = (wd2 x + wd2 y + (wd1 x + wd1 y + (wd0 x + wd0 y + c) / 18446744073709551616) / 18446744073709551616) % 18446744073709551616 := by
  have h1 : x = 340282366920938463463374607431768211456 * (x / 340282366920938463463374607431768211456) + wd1 x * 18446744073709551616 + wd0 x := by unfold wd0 wd1 b64; omega
  have h2 : y = 340282366920938463463374607431768211456 * (y / 340282366920938463463374607431768211456) + wd1 y * 18446744073709551616 + wd0 y := by unfold wd0 wd1 b64; omega
  have a0 := wd0_Wd x; have a1 := wd1_Wd x; have b0 := wd0_Wd y; have b1 := wd1_Wd y
  obtain ⟨a0, a0'⟩ := a0; obtain ⟨a1, a1'⟩ := a1; obtain ⟨b0, b0'⟩ := b0; obtain ⟨b1, b1'⟩ := b1
  have e : (x + y + c) / 340282366920938463463374607431768211456 = x / 340282366920938463463374607431768211456 + y / 340282366920938463463374607431768211456 + (wd1 x + wd1 y + (wd0 x + wd0 y + c) / 18446744073709551616) / 18446744073709551616 := by omega
  unfold wd2 b128 b64; rw [e]; omega
theorem plus_wd3 (x y c : Int) : wd3 (x + y + c) = (wd3 x + wd3 y + (wd2 x + wd2 y + (wd1 x + wd1 y + (wd0 x + wd0 y + c) / 18446744073709551616) / 18446744073709551616) / 18446744073709551616) % 18446744073709551616 := by
  have h1 : x = 6277101735386680763835789423207666416102355444464034512896 * (x / 6277101735386680763835789423207666416102355444464034512896) + wd2 x * 340282366920938463463374607431768211456 + wd1 x * 18446744073709551616 + wd0 x := by unfold wd0 wd1 wd2 b64 b128; omega
  have h2 : y = 6277101735386680763835789423207666416102355444464034512896 * (y / 6277101735386680763835789423207666416102355444464034512896) + wd2 y * 340282366920938463463374607431768211456 + wd1 y * 18446744073709551616 + wd0 y := by unfold wd0 wd1 wd2 b64 b128; omega
  have a0 := wd0_Wd x; have a1 := wd1_Wd x; have a2 := wd2_Wd x; have b0 := wd0_Wd y; have b1 := wd1_Wd y; have b2 := wd2_Wd y
  obtain ⟨a0, a0'⟩ := a0; obtain ⟨a1, a1'⟩ := a1; obtain ⟨b0, b0'⟩ := b0; obtain ⟨b1, b1'⟩ := b1; obtain ⟨a2, a2'⟩ := a2; obtain ⟨b2, b2'⟩ := b2
  have e : (x + y + c) / 6277101735386680763835789423207666416102355444464034512896 = x / 6277101735386680763835789423207666416102355444464034512896 + y / 6277101735386680763835789423207666416102355444464034512896 + (wd2 x + wd2 y + (wd1 x + wd1 y + (wd0 x + wd0 y + c) / 18446744073709551616) / 18446744073709551616) / 18446744073709551616 := by omega
  unfold wd3 b192 b64; rw [e]; omega

/-- the words of -1 - x -/
theorem not_wd0 (x : Int) : wd0 (-1 - x) = 18446744073709551615 - wd0 x := by unfold wd0 b64; omega
theorem not_wd1 (x : Int) : wd1 (-1 - x) = 18446744073709551615 - wd1 x := by unfold wd1 b64; omega
theorem not_wd2 (x : Int) : wd2 (-1 - x) = 18446744073709551615 - wd2 x := by unfold wd2 b64 b128; omega
theorem not_wd3 (x : Int) : wd3 (-1 - x) = 18446744073709551615 - wd3 x := by unfold wd3 b64 b192; omega

/-- is it below 0: the highest bit -/
def ng (x : Int) : Bool := wd3 x / 9223372036854775808 != 0
theorem ng_iff (x : Int) : ng x = true ↔ b255 ≤ x % b256 := by
  unfold ng; rw [bne_iff_ne]; unfold wd3 b64 b192 b255 b256; omega
theorem ng_of_in {x : Int} (h : -b255 ≤ x ∧ x < b255) : ng x = decide (x < 0) := by
  rw [Bool.eq_iff_iff, ng_iff, decide_eq_true_iff]; unfold b255 b256 at *; omega
theorem wd0_0 : wd0 0 = 0 := by decide
theorem wd1_0 : wd1 0 = 0 := by decide
theorem wd2_0 : wd2 0 = 0 := by decide
theorem wd3_0 : wd3 0 = 0 := by decide

/-- two values of four words are the same -/
def eq4 (a0 a1 a2 a3 b0 b1 b2 b3 : Int) : Bool := a0 == b0 && a1 == b1 && a2 == b2 && a3 == b3
theorem eq4_wd (x y : Int) : eq4 (wd0 x) (wd1 x) (wd2 x) (wd3 x) (wd0 y) (wd1 y) (wd2 y) (wd3 y) = decide (x % b256 = y % b256) := by
  rw [Bool.eq_iff_iff, decide_eq_true_iff]
  unfold eq4
  simp only [Bool.and_eq_true, beq_iff_eq]
  constructor
  · rintro ⟨⟨⟨h0, h1⟩, h2⟩, h3⟩; exact wds_eq h0 h1 h2 h3
  · intro h
    refine ⟨⟨⟨?_, ?_⟩, ?_⟩, ?_⟩
    · rw [← wd0_mod x, h, wd0_mod]
    · rw [← wd1_mod x, h, wd1_mod]
    · rw [← wd2_mod x, h, wd2_mod]
    · rw [← wd3_mod x, h, wd3_mod]
theorem eq4_0 (x : Int) : eq4 (wd0 x) (wd1 x) (wd2 x) (wd3 x) 0 0 0 0 = decide (x % b256 = 0) := by
  have := eq4_wd x 0
  rw [wd0_0, wd1_0, wd2_0, wd3_0] at this
  rw [this]; rfl
/-- the size of a number, as bits without a sign -/
def sz (x : Int) : Int := bif ng x then -x else x
/-- a number that a number of the machine may be -/
def InI (x : Int) : Prop := -b255 ≤ x ∧ x < b255
instance (x : Int) : Decidable (InI x) := by unfold InI; exact inferInstance
theorem ng_in {x : Int} (h : InI x) : ng x = decide (x < 0) := ng_of_in h
theorem sz_in {x : Int} (h : InI x) : sz x = x.natAbs := by
  unfold sz; rw [ng_in h]
  by_cases hx : x < 0 <;> simp [hx] <;> omega

/-- is one size below another one, word by word -/
def lt4 (a0 a1 a2 a3 b0 b1 b2 b3 : Int) : Bool :=
  bif a3 != b3 then decide (a3 < b3) else bif a2 != b2 then decide (a2 < b2) else bif a1 != b1 then decide (a1 < b1) else bif a0 != b0 then decide (a0 < b0) else false
theorem lt4_un {a0 a1 a2 a3 b0 b1 b2 b3 : Int} (h0 : Wd a0) (h1 : Wd a1) (h2 : Wd a2) (g0 : Wd b0) (g1 : Wd b1) (g2 : Wd b2) :
    lt4 a0 a1 a2 a3 b0 b1 b2 b3 = decide (un4 a0 a1 a2 a3 < un4 b0 b1 b2 b3) := by
  obtain ⟨p0, q0⟩ := h0; obtain ⟨p1, q1⟩ := h1; obtain ⟨p2, q2⟩ := h2
  obtain ⟨r0, s0⟩ := g0; obtain ⟨r1, s1⟩ := g1; obtain ⟨r2, s2⟩ := g2
  rw [Bool.eq_iff_iff, decide_eq_true_iff]
  unfold lt4 un4 b64 b128 b192
  by_cases e3 : a3 = b3
  · subst e3
    by_cases e2 : a2 = b2
    · subst e2
      by_cases e1 : a1 = b1
      · subst e1
        by_cases e0 : a0 = b0
        · subst e0; simp
        · have : (a0 != b0) = true := by simpa using e0
          simp only [bne_self_eq_false, cond_false, this, cond_true, decide_eq_true_iff]; omega
      · have : (a1 != b1) = true := by simpa using e1
        simp only [bne_self_eq_false, cond_false, this, cond_true, decide_eq_true_iff]; omega
    · have : (a2 != b2) = true := by simpa using e2
      simp only [bne_self_eq_false, cond_false, this, cond_true, decide_eq_true_iff]; omega
  · have : (a3 != b3) = true := by simpa using e3
    simp only [this, cond_true, decide_eq_true_iff]; omega
/-- is one size below another one -/
def ltU (x y : Int) : Bool := decide (x % b256 < y % b256)
theorem lt4_wd (x y : Int) : lt4 (wd0 x) (wd1 x) (wd2 x) (wd3 x) (wd0 y) (wd1 y) (wd2 y) (wd3 y) = ltU x y := by
  rw [lt4_un (wd0_Wd x) (wd1_Wd x) (wd2_Wd x) (wd0_Wd y) (wd1_Wd y) (wd2_Wd y), un4_wd, un4_wd]; rfl
/-- an int -/
def In64 (n : Int) : Prop := -9223372036854775808 ≤ n ∧ n < 9223372036854775808
theorem wd_of_nat {n : Int} (h0 : 0 ≤ n) (h1 : n < 9223372036854775808) : wd0 n = n ∧ wd1 n = 0 ∧ wd2 n = 0 ∧ wd3 n = 0 := by
  unfold wd0 wd1 wd2 wd3 b64 b128 b192; omega
theorem wd_of_neg {n : Int} (h0 : n < 0) (h1 : -9223372036854775808 ≤ n) : wd0 n = n % 18446744073709551616 ∧ wd1 n = 18446744073709551615 ∧ wd2 n = 18446744073709551615 ∧ wd3 n = 18446744073709551615 := by
  unfold wd0 wd1 wd2 wd3 b64 b128 b192; omega
end Go.Proofs.Ytkaolhlmimalkaa
namespace Go.Proofs.Ytkaolhlmimalkaa
open Go Go.RowKit

section
variable {P : Program} {ops : Array Oper} {Q : Exit → Act → World → Prop} {md : Region.Mode} {C : World → Prop}

/-- whatever order is picked for f operations more, all of them ahead of number n; behind each one the class holds; then L -/
def wpAnyHL (P : Program) (md : Region.Mode) (ops : Array Oper) (Q : Exit → Act → World → Prop) (C : World → Prop) (n : Nat) (L : Array Bool → Act → World → Prop) : Nat → Array Bool → Act → World → Prop
  | 0, listed, a, w => L listed a w
  | f + 1, listed, a, w => Region.ready md ops listed ≠ [] ∧ ∀ i ∈ Region.ready md ops listed, i < n ∧ wpOp P ops Q i (fun a' w' => C w' ∧ wpAnyHL P md ops Q C n L f (listed.setIfInBounds i true) a' w') a w

theorem wpAny_of_headH {n g : Nat} {L : Array Bool → Act → World → Prop} (hL : ∀ listed a w, L listed a w → wpAny P md ops Q g listed a w) :
    ∀ (f : Nat) (listed : Array Bool) (a : Act) (w : World), wpAnyHL P md ops Q C n L f listed a w → wpAny P md ops Q (f + g) listed a w
  | 0, listed, a, w, h => by rw [Nat.zero_add]; exact hL _ _ _ h
  | f + 1, listed, a, w, h => by
    rw [show f + 1 + g = (f + g) + 1 by omega]
    exact ⟨fun h0 => absurd h0 h.1, fun i hi => wpOp_mono (fun a' w' h' => wpAny_of_headH hL f _ a' w' h'.2) (h.2 i hi).2⟩

theorem wpAnyHL_first {n i : Nat} {oi : Oper} {v : Value} {L : Array Bool → Act → World → Prop} (hi : ops[i]? = some oi) (hsel : ∀ (j : Nat) (o : Oper) cs b, ops[j]? = some o → o.op ≠ .select cs b)
    (hQ : ∀ c a d v w, Q (.panic c) (Act.put a d v) w → Q (.panic c) a w) (hin : i < n)
    (hlt : ∀ listed, HeadInv md ops n listed → listed.getD i true = false → ∀ j ∈ Region.ready md ops listed, j < n)
    (hdone : ∀ listed a w, L listed a w → ∀ j ∈ Region.ready md ops listed, n ≤ j) :
    ∀ (f : Nat) (listed : Array Bool) (a : Act) (w : World), HeadInv md ops n listed →
      (∀ j oj, ops[j]? = some oj → j ≠ i → listed.getD j true = false → (∀ e ∈ oj.after, Region.binds md e = true → e.on ≠ i) → oi.apart ops oj = true) →
      i ∈ Region.ready md ops listed → YieldsIf P ops C oi v a → C w →
      wpAnyHL P md ops Q C n L f (listed.setIfInBounds i true) (a.put oi.dst v) w → wpAnyHL P md ops Q C n L (f + 1) listed a w := by
 intro f
 induction f with
 | zero =>
  intro listed a w inv _ hr hy hC H
  have hun := (mem_ready.1 hr).1
  refine ⟨fun h => (by rw [h] at hr; cases hr), fun j hj => ?_⟩
  have hjn : j < n := hlt listed inv hun j hj
  refine ⟨hjn, ?_⟩
  by_cases hji : j = i
  ·subst hji; exact hy.wpOp hi hC ⟨hC, H⟩
  ·have := hdone _ _ _ H j (ready_mono hj hji)
   omega
 | succ f ih =>
  intro listed a w inv hfree hr hy hC H
  have hun := (mem_ready.1 hr).1
  refine ⟨fun h => (by rw [h] at hr; cases hr), fun j hj => ?_⟩
  have hjn : j < n := hlt listed inv hun j hj
  refine ⟨hjn, ?_⟩
  by_cases hji : j = i
  ·subst hji; exact hy.wpOp hi hC ⟨hC, H⟩
  ·have h1 := (H.2 j (ready_mono hj hji)).2
   obtain ⟨hjun, oj, hoj, hall⟩ := mem_ready.1 hj
   have hnot : ∀ e ∈ oj.after, Region.binds md e = true → e.on ≠ i := fun e he hb heq => by
    have h1 := hall e he hb
    rw [heq, getD_both hun] at h1
    cases h1
   have h2 := wpOp_putIf hoj (hfree j oj hoj hji hjun hnot) (fun cs b => hsel i oi cs b hi) (fun cs b => hsel j oj cs b hoj) (fun c a w => hQ c _ _ _ w) hy h1
   have hfree' : ∀ k ok, ops[k]? = some ok → k ≠ i → (listed.setIfInBounds j true).getD k true = false →
     (∀ e ∈ ok.after, Region.binds md e = true → e.on ≠ i) → oi.apart ops ok = true := fun k ok hk hki hun hno => by
    refine hfree k ok hk hki ?_ hno
    by_cases hjk : j = k
    ·subst hjk; exact hjun
    ·rw [getD_set_ne true hjk] at hun; exact hun
   refine wpOp_mono (fun a' w' h3 => ⟨h3.2.1, ih (listed.setIfInBounds j true) a' w' (inv.set hj hjn) hfree' (ready_mono hr (Ne.symm hji)) h3.1 h3.2.1 ?_⟩) h2
   rw [Array.setIfInBounds_comm _ _ hji]
   exact h3.2.2

/-- the walk by a schedule: (true, i): number i only reads or computes; (false, i): it comes up alone -/
def wpS (P : Program) (ops : Array Oper) (C : World → Prop) (Q : Exit → Act → World → Prop) (T : Act → World → Prop) : List (Bool × Nat) → Act → World → Prop
  | [], a, w => T a w
  | (true, i) :: σ, a, w => ∃ o v, ops[i]? = some o ∧ YieldsIf P ops C o v a ∧ wpS P ops C Q T σ (a.put o.dst v) w
  | (false, i) :: σ, a, w => wpOp P ops Q i (fun a' w' => C w' ∧ wpS P ops C Q T σ a' w') a w

/-- does the schedule fit the edges? -/
def schedB (md : Region.Mode) (ops : Array Oper) (n : Nat) : List (Bool × Nat) → Array Bool → Bool
  | [], listed => Region.seqB md ops (ops.size - n) n listed
  | (true, i) :: σ, listed => decide (i < n) && (Region.ready md ops listed).contains i && Region.free md ops listed i && schedB md ops n σ (listed.setIfInBounds i true)
  | (false, i) :: σ, listed => decide (i < n) && decide (Region.ready md ops listed = [i]) && schedB md ops n σ (listed.setIfInBounds i true)

/-- no operation from n on may come up ahead of one below n -/
def headB (md : Region.Mode) (ops : Array Oper) (n : Nat) : Bool :=
  decide (n = ops.size) || (decide (n < ops.size) && Region.sinkB md ops n && Region.chainB md ops n)

theorem headB_lt {n : Nat} (h : headB md ops n = true) : ∀ listed, HeadInv md ops n listed → ∀ i, i < n → listed.getD i true = false → ∀ j ∈ Region.ready md ops listed, j < n := by
  intro listed inv i hin hun j hj
  simp only [headB, Bool.or_eq_true, Bool.and_eq_true, decide_eq_true_eq] at h
  rcases h with h | ⟨⟨hn, hs⟩, hc⟩
  · obtain ⟨_, o, ho, _⟩ := mem_ready.1 hj
    have := (Array.getElem?_eq_some_iff.1 ho).1
    omega
  · rcases Nat.lt_or_ge j n with h | h
    · exact h
    · exact absurd hj (tail_waits hs hc hn inv _ i rfl hin hun j h)

theorem wpAnyHL_of_sched {n : Nat} {T : Act → World → Prop} (hsel : Region.noSelect ops = true) (hh : headB md ops n = true) (hQ : ∀ c a d v w, Q (.panic c) (Act.put a d v) w → Q (.panic c) a w) :
    ∀ (σ : List (Bool × Nat)) (listed : Array Bool) (a : Act) (w : World), HeadInv md ops n listed → schedB md ops n σ listed = true → C w → wpS P ops C Q T σ a w →
    wpAnyHL P md ops Q C n (fun listed' a' w' => Region.seqB md ops (ops.size - n) n listed' = true ∧ T a' w') σ.length listed a w
  | [], listed, a, w, _, hB, _, h => ⟨hB, h⟩
  | (true, i) :: σ, listed, a, w, inv, hB, hC, h => by
    simp only [schedB, Bool.and_eq_true, decide_eq_true_eq] at hB
    obtain ⟨⟨⟨hin, hr⟩, hf⟩, hB'⟩ := hB
    obtain ⟨o, v, ho, hy, hK⟩ := h
    have hr' : i ∈ Region.ready md ops listed := by simpa using hr
    exact wpAnyHL_first ho (Region.noSelect_spec hsel) hQ hin (fun l il hu => headB_lt hh l il i hin hu) (fun l a w hL => seqB_ready hL.1) σ.length listed a w inv
      (Region.free_spec ho hf) hr' hy hC (wpAnyHL_of_sched hsel hh hQ σ _ _ _ (inv.set hr' hin) hB' hC hK)
  | (false, i) :: σ, listed, a, w, inv, hB, hC, h => by
    simp only [schedB, Bool.and_eq_true, decide_eq_true_eq] at hB
    obtain ⟨⟨hin, hr⟩, hB'⟩ := hB
    refine ⟨by rw [hr]; simp, fun j hj => ?_⟩
    have hji : j = i := by rw [hr] at hj; simpa using hj
    subst hji
    exact ⟨hin, wpOp_mono (fun a' w' h' => ⟨h'.1, wpAnyHL_of_sched hsel hh hQ σ _ _ _ (inv.set hj hin) hB' h'.1 h'.2⟩) h⟩

/-- THE LAW: a region that draws its order, walked by a schedule of its first n operations, and then by the rest in order. -/
theorem wp_region_sched {id : Nat} {a : Act} {w : World} {l : List Oper} (n : Nat) (σ : List (Bool × Nat)) (C : World → Prop) (hm : P.follows .mixedOrders = true)
    (hB : (Region.noSelect l.toArray && headB .any l.toArray n && decide (σ.length = n) && decide (n ≤ l.length) && schedB .any l.toArray n σ (Array.replicate l.length false)) = true)
    (hQ : ∀ c a d v w, Q (.panic c) (Act.put a d v) w → Q (.panic c) a w) (hC : C { w with drawn := w.drawn + 1 })
    (h : wpS P l.toArray C Q (fun a' w' => wpList P l.toArray Q (l.drop n) a' w') σ a { w with drawn := w.drawn + 1 }) : (Code.region id l.toArray true).wp P Q a w := by
  simp only [Bool.and_eq_true, decide_eq_true_eq] at hB
  obtain ⟨⟨⟨⟨hsel, hh⟩, hlen⟩, hn⟩, hs⟩ := hB
  have hdl : (l.drop n).length = l.toArray.size - n := by simp
  have hrep : (Array.replicate l.length false) = Array.replicate l.toArray.size false := by simp
  rw [hrep] at hs
  have inv0 : HeadInv .any l.toArray n (Array.replicate l.toArray.size false) :=
    ⟨by simp, fun j oj _ hl => (by rw [getD_replicate_false] at hl; cases hl), fun t _ ht => getD_in (by simpa using ht) (getD_replicate_false _ _)⟩
  have H := wpAnyHL_of_sched (P := P) (C := C) hsel hh hQ σ _ a _ inv0 hs hC h
  refine wp_region_any hm ?_
  have := wpAny_of_headH (g := l.toArray.size - n) (fun listed a' w' hL => by
    have := wpAny_of_seq (md := .any) (Q' := Q) (l.drop n) n listed a' w' (fun j => by simp [List.getElem?_drop]) (by rw [hdl]; exact hL.1) hL.2
    rwa [hdl] at this) _ _ _ _ H
  have e : σ.length + (l.toArray.size - n) = l.toArray.size := by simp; omega
  rw [e] at this
  exact this

/-- the operations that yield a value, or fail: no call, no store -/
def plainOp : Op → Bool
  | .move _ | .assign _ | .pick _ _ _ | .build _ _ | .load _ _ | .binOp _ _ _ _ _ | .unOp _ _ _ | .convert _ _ _ | .sliceToArrayPointer _ _ | .slice _ _ _ _ _
  | .fieldAddr _ _ _ | .field _ _ _ | .indexAddr _ _ _ | .index _ _ _ | .extract _ _ | .makeInterface _ _ => true
  | _ => false

theorem bind_value (s : Sem Value) (w w' : World) (n : Next) (h : (do pure (Next.value (← s)) : Sem Next).run P w = .ok n w') : ∃ v, n = .value v := by
  rw [Sem.run_bind] at h
  cases hs : s.run P w with
  | ok v w1 =>
    rw [hs] at h
    simp only [Result.andThen, Sem.run_pure] at h
    injection h with h1 h2
    exact ⟨v, h1.symm⟩
  | halt x w1 =>
    rw [hs] at h
    simp [Result.andThen] at h

theorem plain_value {o : Oper} {ρ : Operand → Value} {w w' : World} {n : Next} (hp : plainOp o.op = true) (h : (execOp ρ o).run P w = .ok n w') : ∃ v, n = .value v := by
  unfold execOp at h
  revert hp h
  cases o.op <;> intro hp h <;> first
    | (exact absurd (show false = true from hp) Bool.false_ne_true)
    | (rename_i x; exact ⟨_, ((Result.ok.inj (show Result.ok (Next.value (ρ x)) w = Result.ok n w' from h)).1).symm⟩)
    | (rename_i c x y
       have h' : ((asBool (ρ c)).bind fun b => Sem.pure (Next.value (if b = true then ρ x else ρ y))).run P w = .ok n w' := h
       have e : (((asBool (ρ c)).bind fun b => Sem.pure (if b = true then ρ x else ρ y)).bind fun v => Sem.pure (Next.value v)) = ((asBool (ρ c)).bind fun b => Sem.pure (Next.value (if b = true then ρ x else ρ y))) := by
         unfold asBool; cases ρ c <;> rfl
       rw [← e] at h'
       exact bind_value _ _ _ _ h')
    | (exact bind_value _ _ _ _ h)

theorem yields_of_quiet {o : Oper} {a : Act} {v : Value} (hp : plainOp o.op = true) (h : ∀ w, C w → o.quietAt P a C w v) : ∀ w, C w → (execOp a.eval o).run P w = .ok (.value v) w := by
  intro w hw
  have h3 := h w hw
  unfold Oper.quietAt at h3
  cases hr : (execOp a.eval o).run P w with
  | ok n w' =>
    rw [hr] at h3
    obtain ⟨u, rfl⟩ := plain_value hp hr
    simp only [Oper.quietUpon] at h3
    rw [h3.1, h3.2]
  | halt x w' => rw [hr] at h3; simp only [Oper.quietUpon] at h3

/-- one step: it only reads or computes: by the quiet walk of that one operation -/
theorem wpS_take {T : Act → World → Prop} {σ : List (Bool × Nat)} {i : Nat} {o : Oper} {a : Act} {w : World} (ho : ops[i]? = some o) (hp : plainOp o.op = true)
    (h : wpQuiet P ops C (fun a' => wpS P ops C Q T σ a' w) [o] a) : wpS P ops C Q T ((true, i) :: σ) a w := by
  unfold wpQuiet at h
  by_cases hw : Region.wanted o (yielded ops a.tmps) = true
  · rw [if_pos hw] at h
    obtain ⟨v, h1, h2⟩ := h
    exact ⟨o, v, ho, .inl ⟨hw, yields_of_quiet hp h1⟩, h2⟩
  · rw [if_neg hw] at h
    exact ⟨o, undef, ho, .inr ⟨by simpa using hw, rfl⟩, h⟩

theorem upon_then {o : Oper} {a : Act} {next K : Act → World → Prop} {r : Result Next} (h : o.upon P a next (Exit.then K Q) r) : o.upon P a next Q r := by
  cases r with
  | ok n w' =>
    cases n <;> first
      | exact h
      | (exact Calls.mono h (fun e w'' he => by cases e <;> exact he))
  | halt x w' => cases x <;> exact h

/-- one step: a call, a store, a new block -/
theorem wpS_do {T : Act → World → Prop} {σ : List (Bool × Nat)} {i : Nat} {o : Oper} {a : Act} {w : World} (ho : ops[i]? = some o)
    (h : ∀ K : Act → World → Prop, (∀ a' w', C w' → wpS P ops C Q T σ a' w' → K a' w') → wpList P ops (Exit.then K Q) [o] a w) : wpS P ops C Q T ((false, i) :: σ) a w := by
  have h := h (fun a' w' => C w' ∧ wpS P ops C Q T σ a' w') (fun a' w' h1 h2 => ⟨h1, h2⟩)
  show wpOp P ops Q i (fun a' w' => C w' ∧ wpS P ops C Q T σ a' w') a w
  unfold wpOp
  simp only [ho]
  unfold wpList at h
  by_cases hw : Region.wanted o (yielded ops a.tmps) = true
  · rw [if_pos hw] at h ⊢
    rcases h with h | ⟨h1, h2⟩
    · exact .inl (upon_then h)
    · exact .inr ⟨h1, h2⟩
  · rw [if_neg hw] at h ⊢
    exact h

theorem wpS_takeL {l : List Oper} {T : Act → World → Prop} {σ : List (Bool × Nat)} {i : Nat} {o : Oper} {a : Act} {w : World} (ho : l[i]? = some o) (hp : plainOp o.op = true)
    (h : wpQuiet P l.toArray C (fun a' => wpS P l.toArray C Q T σ a' w) [o] a) : wpS P l.toArray C Q T ((true, i) :: σ) a w := wpS_take (by simpa using ho) hp h
theorem wpS_doL {l : List Oper} {T : Act → World → Prop} {σ : List (Bool × Nat)} {i : Nat} {o : Oper} {a : Act} {w : World} (ho : l[i]? = some o)
    (h : ∀ K : Act → World → Prop, Hid (∀ a' w', C w' → wpS P l.toArray C Q T σ a' w' → K a' w') → wpList P l.toArray (Exit.then K Q) [o] a w) : wpS P l.toArray C Q T ((false, i) :: σ) a w := wpS_do (by simpa using ho) h

theorem wpS_nil {T : Act → World → Prop} {a : Act} {w : World} (h : T a w) : wpS P ops C Q T [] a w := h

/-- the worlds that have all blocks of W below number B -/
def UpTo (B : Nat) (W : World) : Type := { w' : World // Below B W w' }
def UpTo.w {B : Nat} {W : World} (u : UpTo B W) : World := u.1
theorem UpTo.below {B : Nat} {W : World} (u : UpTo B W) : Below B W u.w := u.2
@[go_sem] theorem UpTo.cell {B : Nat} {W : World} (u : UpTo B W) (b o : Nat) (h : b < B) : u.w.cell? ⟨b, o, none⟩ = W.cell? ⟨b, o, none⟩ := u.below.cell (p := ⟨b, o, none⟩) h
/-- the class of a region: all blocks of W below number B are as they were -/
def Up (B : Nat) (W : World) (w' : World) : Prop := ∃ u : UpTo B W, w' = u.w
theorem up_iff {B : Nat} {W w' : World} : Up B W w' ↔ Below B W w' := ⟨fun ⟨u, h⟩ => h ▸ u.below, fun h => ⟨⟨w', h⟩, rfl⟩⟩

/-- THE LAW at the class of a region. -/
theorem wp_region_up {id : Nat} {a : Act} {w : World} {l : List Oper} (B n : Nat) (σ : List (Bool × Nat)) (hm : P.follows .mixedOrders = true)
    (hB : (Region.noSelect l.toArray && headB .any l.toArray n && decide (σ.length = n) && decide (n ≤ l.length) && schedB .any l.toArray n σ (Array.replicate l.length false)) = true)
    (hQ : ∀ c a d v w, Q (.panic c) (Act.put a d v) w → Q (.panic c) a w)
    (h : wpS P l.toArray (fun w' => ∃ u : UpTo B w, w' = u.w) Q (fun a' w' => wpList P l.toArray Q (l.drop n) a' w') σ a w.drew) : (Code.region id l.toArray true).wp P Q a w :=
  wp_region_sched n σ _ hm hB hQ (up_iff.2 (Below.refl B w).drew) h

/-- w' is W, but for block c and for what is new -/
structure OutEx (c : Nat) (W w' : World) : Prop where
  os : w'.os = W.os
  tape : w'.tape = W.tape
  output : w'.output = W.output
  size : W.heap.size ≤ w'.heap.size
  block : ∀ k, k < W.heap.size → k ≠ c → w'.heap[k]? = W.heap[k]?
theorem OutEx.refl (c : Nat) (W : World) : OutEx c W W := ⟨rfl, rfl, rfl, Nat.le_refl _, fun _ _ _ => rfl⟩
theorem OutEx.of {c : Nat} {W w w' : World} (h : OutEx c W w) (hb : Below w.heap.size w w') : OutEx c W w' :=
  ⟨hb.os.trans h.os, hb.tape.trans h.tape, hb.output.trans h.output, Nat.le_trans h.size hb.size, fun k hk hc => (hb.block k (Nat.lt_of_lt_of_le hk h.size)).trans (h.block k hk hc)⟩
theorem OutEx.set {c : Nat} {W w : World} (h : OutEx c W w) (o : Nat) (s : Option Nat) (v : Value) : OutEx c W (w.setCell ⟨c, o, s⟩ v) :=
  ⟨h.os, h.tape, h.output, by simpa [World.setCell] using h.size, fun k hk hc => (Below.heap_setCell _ _ _ _ hc).trans (h.block k hk hc)⟩
theorem OutEx.below {c B : Nat} {W w : World} (h : OutEx c W w) (hB : B ≤ W.heap.size) (hc : B ≤ c) : Below B W w :=
  ⟨h.os, h.tape, h.output, h.size, fun k hk => h.block k (by omega) (by omega)⟩
def UpEx (c : Nat) (W : World) : Type := { w' : World // OutEx c W w' }
def UpEx.w {c : Nat} {W : World} (u : UpEx c W) : World := u.1
@[go_sem] theorem UpEx.cell {c : Nat} {W : World} (u : UpEx c W) (b o : Nat) (h : b < W.heap.size) (hc : b ≠ c) : u.w.cell? ⟨b, o, none⟩ = W.cell? ⟨b, o, none⟩ :=
  World.cell?_of_block (w := W) (u.2.block b h hc)
end
end Go.Proofs.Ytkaolhlmimalkaa
namespace Go.Proofs.Ytkaolhlmimalkaa
open Go Go.RowKit

section
variable {P : Program} {ops : Array Oper} {Q : Exit → Act → World → Prop} {md : Region.Mode} {W : World}

def dstOf (ops : Array Oper) (i : Nat) : Option Tmp := (ops[i]?).bind (·.dst)
def ptrTo (b : Nat) : Value := .pointer (some ⟨b, 0, none⟩)
/-- the slots of the new variables D, at the blocks β -/
def puts (ops : Array Oper) (β : Nat → Nat) (D : List Nat) (a : Act) : Act := D.foldr (fun i a => a.put (dstOf ops i) (ptrTo (β i))) a

/-- the blocks of the new variables D are there, new, and apart -/
def Good (W : World) (z : Nat → Obj) (β : Nat → Nat) (D : List Nat) (w : World) : Prop :=
  (∀ i ∈ D, W.heap.size ≤ β i ∧ w.heap[β i]? = some (z i)) ∧ (∀ i ∈ D, ∀ j ∈ D, i ≠ j → β i ≠ β j)

/-- the walk by a schedule, the world growing between its steps -/
def wpF (P : Program) (ops : Array Oper) (W : World) (Q : Exit → Act → World → Prop) (T : Act → World → Prop) : List (Bool × Nat) → Act → World → Prop
  | [], a, w => T a w
  | (true, i) :: σ, a, w => ∃ o v, ops[i]? = some o ∧ YieldsIf P ops (fun w' => ∃ u : UpTo W.heap.size W, w' = u.w) o v a ∧ wpF P ops W Q T σ (a.put o.dst v) w
  | (false, i) :: σ, a, w => ∀ w1, Below w.heap.size w w1 → wpOp P ops Q i (fun a' w' => Below w1.heap.size w1 w' ∧ wpF P ops W Q T σ a' w') a w1

/-- the checks on the new variables -/
def floatB (ops : Array Oper) (n : Nat) (A : List Nat) : Bool :=
  decide A.Nodup && A.all fun i => decide (i < n) && match ops[i]? with
    | none => false
    | some oi => oi.after.isEmpty && oi.guard.isNone && oi.dst.isSome &&
      (List.range n).all fun j => j == i || match ops[j]? with
        | none => false
        | some oj => !(oj.after.any fun e => e.on == i) && oi.apart ops oj && oj.apart ops oi

structure FloatOk (ops : Array Oper) (n : Nat) (A : List Nat) : Prop where
  nodup : A.Nodup
  at_ : ∀ i ∈ A, i < n ∧ ∃ oi, ops[i]? = some oi ∧ oi.after = #[] ∧ oi.guard = none ∧ (∃ d, oi.dst = some d) ∧
    ∀ j, j < n → j ≠ i → ∃ oj, ops[j]? = some oj ∧ (∀ e ∈ oj.after, e.on ≠ i) ∧ oi.apart ops oj = true ∧ oj.apart ops oi = true

theorem floatB_ok {n : Nat} {A : List Nat} (h : floatB ops n A = true) : FloatOk ops n A := by
  unfold floatB at h
  rw [Bool.and_eq_true, decide_eq_true_eq, List.all_eq_true] at h
  refine ⟨h.1, fun i hi => ?_⟩
  have h1 := h.2 i hi
  rw [Bool.and_eq_true, decide_eq_true_eq] at h1
  refine ⟨h1.1, ?_⟩
  cases ho : ops[i]? with
  | none => simp [ho] at h1
  | some oi =>
    simp only [ho] at h1
    obtain ⟨_, h2⟩ := h1
    rw [Bool.and_eq_true, Bool.and_eq_true, Bool.and_eq_true, List.all_eq_true] at h2
    obtain ⟨⟨⟨h3, h4⟩, h5⟩, h6⟩ := h2
    refine ⟨oi, rfl, by simpa using h3, by simpa using h4, Option.isSome_iff_exists.1 h5, fun j hj hji => ?_⟩
    have h7 := h6 j (List.mem_range.2 hj)
    cases hoj : ops[j]? with
    | none => simp [hoj, hji] at h7
    | some oj =>
      simp only [hoj, Bool.or_eq_true, beq_iff_eq, hji, false_or, Bool.and_eq_true, Bool.not_eq_true'] at h7
      obtain ⟨⟨h8, h9⟩, h10⟩ := h7
      refine ⟨oj, rfl, fun e he heq => ?_, h9, h10⟩
      have : oj.after.any (fun e => e.on == i) = true := Array.any_eq_true'.2 ⟨e, he, by simpa using heq⟩
      rw [this] at h8; cases h8

theorem yields_put {oi oj : Oper} {v u : Value} {a : Act} {C : World → Prop} (hap : oi.apart ops oj = true) (hsj : ∀ cs b, oj.op ≠ .select cs b) (hy : YieldsIf P ops C oj v a) : YieldsIf P ops C oj v (a.put oi.dst u) := by
  obtain ⟨h1, _, _⟩ := Oper.apart_spec hap
  exact hy.of_same (execOp_put oj hsj a oi.dst u h1) (wanted_put oj a oi.dst u h1)

/-- an operation, where the slot of a new variable is filled already -/
theorem wpOp_at_put {j : Nat} {oi oj : Oper} {v : Value} (hj : ops[j]? = some oj) (hap : oi.apart ops oj = true) (hsj : ∀ cs b, oj.op ≠ .select cs b)
    (hQ : ∀ c a d v w, Q (.panic c) (Act.put a d v) w ↔ Q (.panic c) a w) {K : Act → World → Prop} {a : Act} {w : World} (h : wpOp P ops Q j K a w) :
    wpOp P ops Q j (fun a' w' => ∃ a0, a' = a0.put oi.dst v ∧ K a0 w') (a.put oi.dst v) w := by
  obtain ⟨h1, h2, h3⟩ := Oper.apart_spec hap
  unfold wpOp at *
  simp only [hj] at *
  rw [wanted_put oj a oi.dst v h1]
  split
  · rename_i hw
    simp only [hw, if_true] at h
    rcases h with h | ⟨hasks, hlets⟩
    case inr => exact .inr ⟨by unfold Oper.asks at *; rw [execOp_put oj hsj a oi.dst v h1]; exact hasks, hlets⟩
    refine .inl ?_
    unfold Oper.wp at *
    rw [execOp_put oj hsj a oi.dst v h1]
    generalize (execOp a.eval oj).run P w = r at *
    cases r with
    | ok n w' =>
      cases n <;> simp only [Oper.upon] at h ⊢
      case value u => exact ⟨_, Act.put_comm a v u h2, h⟩
      case skip => exact ⟨_, Act.put_comm a v undef h2, h⟩
      case defer d => exact ⟨_, by rw [Act.put_defers, Act.put_comm _ v undef h2], h⟩
      case enter f args =>
        refine Calls.mono h fun e w'' he => ?_
        cases e with
        | returned u => exact ⟨_, Act.put_comm a v u h2, he⟩
        | panicked c => exact (hQ _ _ _ _ _).2 he
        | outgrown => exact he
      case row row args => exact Rows.mono h fun u w'' he => ⟨_, Act.put_comm a v u h2, he⟩
    | halt x w' =>
      cases x <;> simp only [Oper.upon] at h ⊢
      case panic u => exact (hQ _ _ _ _ _).2 h
  · rename_i hw
    simp only [hw] at h
    exact ⟨_, Act.put_comm a v undef h2, h⟩

theorem wpOp_at_puts {n j : Nat} {oj : Oper} {A : List Nat} (ok : FloatOk ops n A) (β : Nat → Nat) (hj : ops[j]? = some oj) (hjn : j < n) (hjA : j ∉ A) (hsj : ∀ cs b, oj.op ≠ .select cs b)
    (hQ : ∀ c a d v w, Q (.panic c) (Act.put a d v) w ↔ Q (.panic c) a w) {a : Act} {w : World} : ∀ (D : List Nat), (∀ i ∈ D, i ∈ A) → ∀ {K : Act → World → Prop}, wpOp P ops Q j K a w →
    wpOp P ops Q j (fun a' w' => ∃ a0, a' = puts ops β D a0 ∧ K a0 w') (puts ops β D a) w
  | [], _, K, h => wpOp_mono (fun a' w' h' => ⟨a', rfl, h'⟩) h
  | i :: D, hD, K, h => by
    have ih := wpOp_at_puts ok β hj hjn hjA hsj hQ D (fun k hk => hD k (List.mem_cons_of_mem _ hk)) h
    obtain ⟨_, oi, hoi, _, _, _, hall⟩ := ok.at_ i (hD i (List.mem_cons_self ..))
    obtain ⟨oj', hoj', _, hap, _⟩ := hall j hjn (fun e => hjA (e ▸ hD i (List.mem_cons_self ..)))
    obtain rfl : oj = oj' := Option.some.inj (hj.symm.trans hoj')
    have h1 := wpOp_at_put (v := ptrTo (β i)) hj hap hsj hQ ih
    have hd : dstOf ops i = oi.dst := by simp [dstOf, hoi]
    show wpOp P ops Q j _ ((puts ops β D a).put (dstOf ops i) (ptrTo (β i))) w
    rw [hd]
    refine wpOp_mono (fun a' w' ⟨a1, e1, a0, e0, hk⟩ => ⟨a0, ?_, hk⟩) h1
    rw [e1, e0]; show _ = (puts ops β D a0).put (dstOf ops i) (ptrTo (β i)); rw [hd]

theorem puts_put {n j : Nat} {oj : Oper} {A : List Nat} (ok : FloatOk ops n A) (β : Nat → Nat) (hj : ops[j]? = some oj) (hjn : j < n) (hjA : j ∉ A) (v : Value) (a : Act) : ∀ (D : List Nat), (∀ i ∈ D, i ∈ A) →
    (puts ops β D a).put oj.dst v = puts ops β D (a.put oj.dst v)
  | [], _ => rfl
  | i :: D, hD => by
    obtain ⟨_, oi, hoi, _, _, _, hall⟩ := ok.at_ i (hD i (List.mem_cons_self ..))
    obtain ⟨oj', hoj', _, hap, _⟩ := hall j hjn (fun e => hjA (e ▸ hD i (List.mem_cons_self ..)))
    obtain rfl : oj = oj' := Option.some.inj (hj.symm.trans hoj')
    have hd : dstOf ops i = oi.dst := by simp [dstOf, hoi]
    show ((puts ops β D a).put (dstOf ops i) (ptrTo (β i))).put oj.dst v = (puts ops β D (a.put oj.dst v)).put (dstOf ops i) (ptrTo (β i))
    rw [hd, Act.put_comm _ _ _ (Oper.apart_spec hap).2.1, puts_put ok β hj hjn hjA v a D (fun k hk => hD k (List.mem_cons_of_mem _ hk))]

theorem puts_yields {n j : Nat} {oj : Oper} {A : List Nat} {v : Value} {C : World → Prop} (ok : FloatOk ops n A) (β : Nat → Nat) (hj : ops[j]? = some oj) (hjn : j < n) (hjA : j ∉ A) (hsj : ∀ cs b, oj.op ≠ .select cs b) (a : Act)
    (hy : YieldsIf P ops C oj v a) : ∀ (D : List Nat), (∀ i ∈ D, i ∈ A) → YieldsIf P ops C oj v (puts ops β D a)
  | [], _ => hy
  | i :: D, hD => by
    obtain ⟨_, oi, hoi, _, _, _, hall⟩ := ok.at_ i (hD i (List.mem_cons_self ..))
    obtain ⟨oj', hoj', _, hap, _⟩ := hall j hjn (fun e => hjA (e ▸ hD i (List.mem_cons_self ..)))
    obtain rfl : oj = oj' := Option.some.inj (hj.symm.trans hoj')
    have hd : dstOf ops i = oi.dst := by simp [dstOf, hoi]
    show YieldsIf P ops C oj v ((puts ops β D a).put (dstOf ops i) (ptrTo (β i)))
    rw [hd]
    exact yields_put hap hsj (puts_yields ok β hj hjn hjA hsj a hy D (fun k hk => hD k (List.mem_cons_of_mem _ hk)))

theorem puts_congr {β β' : Nat → Nat} (a : Act) : ∀ (D : List Nat), (∀ i ∈ D, β i = β' i) → puts ops β D a = puts ops β' D a
  | [], _ => rfl
  | i :: D, h => by
    show (puts ops β D a).put _ _ = (puts ops β' D a).put _ _
    rw [h i (List.mem_cons_self ..), puts_congr a D (fun k hk => h k (List.mem_cons_of_mem _ hk))]

theorem puts_perm {n : Nat} {A : List Nat} (ok : FloatOk ops n A) (β : Nat → Nat) (a : Act) {D D' : List Nat} (hD : ∀ i ∈ D, i ∈ A) (p : D.Perm D') : puts ops β D a = puts ops β D' a := by
  unfold puts
  refine p.foldr_eq' (fun i hi j hj z => ?_) a
  by_cases hij : i = j
  · subst hij; rfl
  · obtain ⟨hin, oi, hoi, _, _, _, hall⟩ := ok.at_ i (hD i hi)
    obtain ⟨hjn, _⟩ := ok.at_ j (hD j hj)
    obtain ⟨oj, hoj, _, hap, _⟩ := hall j hjn (Ne.symm hij)
    have e1 : dstOf ops i = oi.dst := by simp [dstOf, hoi]
    have e2 : dstOf ops j = oj.dst := by simp [dstOf, hoj]
    rw [e1, e2]
    exact Act.put_comm _ _ _ (Oper.apart_spec hap).2.1


theorem nodup_sub : ∀ (D A : List Nat), D.Nodup → (∀ i ∈ D, i ∈ A) → ∃ R, A.Perm (D ++ R)
  | [], A, _, _ => ⟨A, List.Perm.refl _⟩
  | i :: D, A, hn, hs => by
    obtain ⟨hi, hn'⟩ := List.nodup_cons.1 hn
    obtain ⟨R, hR⟩ := nodup_sub D (A.erase i) hn' (fun k hk => (List.mem_erase_of_ne (show k ≠ i from fun e => hi (by rw [← e]; exact hk))).2 (hs k (List.mem_cons_of_mem _ hk)))
    exact ⟨R, (List.perm_cons_erase (hs i (List.mem_cons_self ..))).trans (hR.cons i)⟩
theorem nodup_le {D A : List Nat} (hn : D.Nodup) (hs : ∀ i ∈ D, i ∈ A) : D.length ≤ A.length := by
  obtain ⟨R, hR⟩ := nodup_sub D A hn hs
  rw [hR.length_eq, List.length_append]; omega
theorem nodup_perm {D A : List Nat} (hn : D.Nodup) (hs : ∀ i ∈ D, i ∈ A) (hl : A.length ≤ D.length) : D.Perm A := by
  obtain ⟨R, hR⟩ := nodup_sub D A hn hs
  have e := hR.length_eq
  rw [List.length_append] at e
  have : R = [] := List.length_eq_zero_iff.1 (by omega)
  rw [this, List.append_nil] at hR
  exact hR.symm

/-- where the walk stands: ls: what the schedule has listed, all new variables with it; listed: what has come up in truth; D: the new variables that are made -/
structure FlSt (md : Region.Mode) (ops : Array Oper) (n : Nat) (A : List Nat) (W : World) (z : Nat → Obj) (ls listed : Array Bool) (D : List Nat) (β : Nat → Nat) (w : World) : Prop where
  size : listed.size = ops.size
  lsz : ls.size = ops.size
  sub : ∀ j, listed.getD j false = true → ls.getD j false = true
  sup : ∀ j, ls.getD j false = true → j ∉ A → listed.getD j false = true
  flo : ∀ j ∈ A, (listed.getD j false = true ↔ j ∈ D)
  lsA : ∀ i ∈ A, ls.getD i false = true
  inv : HeadInv md ops n listed
  dn : D.Nodup
  da : ∀ i ∈ D, i ∈ A
  cw : Below W.heap.size W w
  good : Good W z β D w

theorem getD_tf {listed : Array Bool} {j : Nat} (hj : j < listed.size) : listed.getD j true = listed.getD j false := by simp [hj]

theorem getD_set {listed : Array Bool} {i j : Nat} (hi : i < listed.size) : (listed.setIfInBounds i true).getD j false = (decide (j = i) || listed.getD j false) := by
  by_cases h : j = i
  · subst h; simp [hi]
  · rw [getD_set_ne false (Ne.symm h)]; simp [h]

/-- who may come up in truth: who may by the schedule, or a new variable that isn't made yet -/
theorem FlSt.ready {n : Nat} {A : List Nat} {z : Nat → Obj} {ls listed : Array Bool} {D : List Nat} {β : Nat → Nat} {w : World} (s : FlSt md ops n A W z ls listed D β w) {j : Nat}
    (hj : j ∈ Region.ready md ops listed) : (j ∈ A ∧ j ∉ D) ∨ (j ∉ A ∧ j ∈ Region.ready md ops ls) := by
  obtain ⟨hun, o, ho, hall⟩ := mem_ready.1 hj
  have hjs : j < ops.size := (Array.getElem?_eq_some_iff.1 ho).1
  rw [getD_tf (by rw [s.size]; exact hjs)] at hun
  by_cases hA : j ∈ A
  · exact .inl ⟨hA, fun hD => by rw [(s.flo j hA).2 hD] at hun; cases hun⟩
  · refine .inr ⟨hA, mem_ready.2 ⟨?_, o, ho, fun e he hb => s.sub _ (hall e he hb)⟩⟩
    rw [getD_tf (by rw [s.lsz]; exact hjs)]
    cases h : ls.getD j false with
    | false => rfl
    | true => rw [s.sup j h hA] at hun; cases hun

theorem FlSt.ready_of {n n1 : Nat} {A : List Nat} {z : Nat → Obj} {ls listed : Array Bool} {D : List Nat} {β : Nat → Nat} {w : World} (ok : FloatOk ops n1 A) (s : FlSt md ops n A W z ls listed D β w) {j : Nat} (hjn : j < n1)
    (hj : j ∈ Region.ready md ops ls) : j ∉ A ∧ j ∈ Region.ready md ops listed := by
  obtain ⟨hun, o, ho, hall⟩ := mem_ready.1 hj
  have hjs : j < ops.size := (Array.getElem?_eq_some_iff.1 ho).1
  rw [getD_tf (by rw [s.lsz]; exact hjs)] at hun
  have hA : j ∉ A := fun hA => by rw [s.lsA j hA] at hun; cases hun
  refine ⟨hA, mem_ready.2 ⟨?_, o, ho, fun e he hb => s.sup _ (hall e he hb) (fun hin => ?_)⟩⟩
  · rw [getD_tf (by rw [s.size]; exact hjs)]
    cases h : listed.getD j false with
    | false => rfl
    | true => rw [s.sub j h] at hun; cases hun
  · obtain ⟨_, oi, _, _, _, _, hall'⟩ := ok.at_ _ hin
    obtain ⟨oj, hoj, hno, _, _⟩ := hall' j hjn (fun e' => hA (e' ▸ hin))
    obtain rfl : o = oj := Option.some.inj (ho.symm.trans hoj)
    exact hno e he rfl

theorem FlSt.pending {n n1 : Nat} {A : List Nat} {z : Nat → Obj} {ls listed : Array Bool} {D : List Nat} {β : Nat → Nat} {w : World} (ok : FloatOk ops n1 A) (s : FlSt md ops n A W z ls listed D β w) {j : Nat} (hA : j ∈ A) (hD : j ∉ D) :
    j ∈ Region.ready md ops listed := by
  obtain ⟨_, oi, hoi, ha, _⟩ := ok.at_ j hA
  have hjs : j < ops.size := (Array.getElem?_eq_some_iff.1 hoi).1
  refine mem_ready.2 ⟨?_, oi, hoi, fun e he => by rw [ha] at he; simp at he⟩
  rw [getD_tf (by rw [s.size]; exact hjs)]
  cases h : listed.getD j false with
  | false => rfl
  | true => exact absurd ((s.flo j hA).1 h) hD

theorem FlSt.step {n : Nat} {A : List Nat} {z : Nat → Obj} {ls listed : Array Bool} {D : List Nat} {β : Nat → Nat} {w w' : World} (s : FlSt md ops n A W z ls listed D β w) {j : Nat} (hjn : j < n) (hA : j ∉ A)
    (hr : j ∈ Region.ready md ops listed) (hb : Below w.heap.size w w') : FlSt md ops n A W z (ls.setIfInBounds j true) (listed.setIfInBounds j true) D β w' := by
  obtain ⟨_, o, ho, _⟩ := mem_ready.1 hr
  have hjs : j < ops.size := (Array.getElem?_eq_some_iff.1 ho).1
  have h1 : ∀ k, (listed.setIfInBounds j true).getD k false = (decide (k = j) || listed.getD k false) := fun k => getD_set (by rw [s.size]; exact hjs)
  have h2 : ∀ k, (ls.setIfInBounds j true).getD k false = (decide (k = j) || ls.getD k false) := fun k => getD_set (by rw [s.lsz]; exact hjs)
  refine ⟨by simp [s.size], by simp [s.lsz], fun k hk => ?_, fun k hk hkA => ?_, fun k hk => ?_, fun k hk => ?_, s.inv.set hr hjn, s.dn, s.da, s.cw.trans (hb.mono s.cw.size), ?_⟩
  · rw [h1, Bool.or_eq_true] at hk; rw [h2, Bool.or_eq_true]; exact hk.imp id (s.sub k)
  · rw [h2, Bool.or_eq_true] at hk; rw [h1, Bool.or_eq_true]; exact hk.imp id (fun h => s.sup k h hkA)
  · rw [h1]
    have : k ≠ j := fun e => hA (e ▸ hk)
    simp only [this, decide_false, Bool.false_or]; exact s.flo k hk
  · rw [h2, Bool.or_eq_true]; exact .inr (s.lsA k hk)
  · refine ⟨fun i hi => ⟨(s.good.1 i hi).1, ?_⟩, s.good.2⟩
    have h3 := (s.good.1 i hi).2
    rw [hb.block _ (Array.getElem?_eq_some_iff.1 h3).1]; exact h3

theorem FlSt.made {n n1 : Nat} {A : List Nat} {z : Nat → Obj} {ls listed : Array Bool} {D : List Nat} {β : Nat → Nat} {w : World} (ok : FloatOk ops n1 A) (hn1 : n1 ≤ n) (s : FlSt md ops n A W z ls listed D β w) {i : Nat} (hA : i ∈ A) (hD : i ∉ D) :
    FlSt md ops n A W z ls (listed.setIfInBounds i true) (i :: D) (fun k => if k = i then w.heap.size else β k) (w.alloc (z i)) := by
  have hr := s.pending ok hA hD
  obtain ⟨hin, oi, hoi, _⟩ := ok.at_ i hA
  have his : i < ops.size := (Array.getElem?_eq_some_iff.1 hoi).1
  have h1 : ∀ k, (listed.setIfInBounds i true).getD k false = (decide (k = i) || listed.getD k false) := fun k => getD_set (by rw [s.size]; exact his)
  have hnew : (w.alloc (z i)).heap[w.heap.size]? = some (z i) := by
    show (w.heap.push _)[w.heap.size]? = _
    rw [Array.getElem?_push, if_pos rfl]
  have hold : ∀ k, k < w.heap.size → (w.alloc (z i)).heap[k]? = w.heap[k]? := fun k hk => Below.heap_alloc _ _ _ hk
  have hlt : ∀ k ∈ D, β k < w.heap.size := fun k hk => (Array.getElem?_eq_some_iff.1 (s.good.1 k hk).2).1
  refine ⟨by simp [s.size], s.lsz, fun k hk => ?_, fun k hk hkA => ?_, fun k hk => ?_, s.lsA, s.inv.set hr (Nat.lt_of_lt_of_le hin hn1), List.nodup_cons.2 ⟨hD, s.dn⟩, fun k hk => ?_, s.cw.alloc s.cw.size _, fun k hk => ?_, fun k hk j hj hkj => ?_⟩
  · rw [h1, Bool.or_eq_true] at hk
    rcases hk with hk | hk
    · have : k = i := by simpa using hk
      rw [this]; exact s.lsA i hA
    · exact s.sub k hk
  · rw [h1, Bool.or_eq_true]; exact .inr (s.sup k hk hkA)
  · rw [h1, Bool.or_eq_true, List.mem_cons, s.flo k hk, decide_eq_true_eq]
  · rcases List.mem_cons.1 hk with rfl | hk
    · exact hA
    · exact s.da k hk
  · rcases List.mem_cons.1 hk with rfl | hk'
    · simp only [if_pos]; exact ⟨s.cw.size, hnew⟩
    · have hki : k ≠ i := fun e => hD (e ▸ hk')
      simp only [if_neg hki]
      exact ⟨(s.good.1 k hk').1, by rw [hold _ (hlt k hk')]; exact (s.good.1 k hk').2⟩
  · rcases List.mem_cons.1 hk with rfl | hk' <;> rcases List.mem_cons.1 hj with rfl | hj'
    · exact absurd rfl hkj
    · have hji : j ≠ k := fun e => hkj e.symm
      simp only [if_pos, if_neg hji]
      have := hlt j hj'; omega
    · have hki : k ≠ j := hkj
      simp only [if_pos, if_neg hki]
      have := hlt k hk'; omega
    · have hki : k ≠ i := fun e => hD (e ▸ hk')
      have hji : j ≠ i := fun e => hD (e ▸ hj')
      simp only [if_neg hki, if_neg hji]
      exact s.good.2 k hk' j hj' hkj

theorem made_step {n : Nat} {A : List Nat} {z : Nat → Obj} (ok : FloatOk ops n A) (hAl : ∀ i ∈ A, ∀ oi, ops[i]? = some oi → ∀ ρ w, (execOp ρ oi).run P w = .ok (.value (ptrTo w.heap.size)) (w.alloc (z i)))
    {D : List Nat} {β : Nat → Nat} {a0 : Act} {w : World} {i : Nat} (hA : i ∈ A) (hD : i ∉ D) {K : Act → World → Prop}
    (h : K (puts ops (fun k => if k = i then w.heap.size else β k) (i :: D) a0) (w.alloc (z i))) : wpOp P ops Q i K (puts ops β D a0) w := by
  obtain ⟨_, oi, hoi, _, hg, _, _⟩ := ok.at_ i hA
  unfold wpOp
  simp only [hoi]
  have hw : Region.wanted oi (yielded ops (puts ops β D a0).tmps) = true := by simp [Region.wanted, hg]
  rw [if_pos hw]
  refine .inl ?_
  unfold Oper.wp
  rw [hAl i hA oi hoi]
  show K ((puts ops β D a0).put oi.dst (ptrTo w.heap.size)) (w.alloc (z i))
  have e : puts ops (fun k => if k = i then w.heap.size else β k) (i :: D) a0 = (puts ops β D a0).put oi.dst (ptrTo w.heap.size) := by
    show (puts ops (fun k => if k = i then w.heap.size else β k) D a0).put (dstOf ops i) (ptrTo (if i = i then w.heap.size else β i)) = _
    rw [if_pos rfl, puts_congr (β' := β) a0 D (fun k hk => by rw [if_neg (fun e => hD (by rw [← e]; exact hk))])]
    simp [dstOf, hoi]
  rw [← e]; exact h

theorem float_main {n : Nat} {A : List Nat} {z : Nat → Obj} {T : Act → World → Prop} (hsel : Region.noSelect ops = true) (hh : headB md ops n = true) (hQ : ∀ c a d v w, Q (.panic c) (Act.put a d v) w ↔ Q (.panic c) a w)
    (ok : FloatOk ops n A) (hAl : ∀ i ∈ A, ∀ oi, ops[i]? = some oi → ∀ ρ w, (execOp ρ oi).run P w = .ok (.value (ptrTo w.heap.size)) (w.alloc (z i))) :
    ∀ (f : Nat) (σ : List (Bool × Nat)) (D : List Nat) (β : Nat → Nat) (a0 : Act) (w0 w : World) (ls listed : Array Bool), σ.length + (A.length - D.length) = f → FlSt md ops n A W z ls listed D β w →
      schedB md ops n σ ls = true → Below w0.heap.size w0 w → wpF P ops W Q (fun a w => ∀ w1, Below w.heap.size w w1 → Below W.heap.size W w1 → ∀ β, Good W z β A w1 → T (puts ops β A a) w1) σ a0 w0 →
      wpAnyHL P md ops Q (fun w' => ∃ u : UpTo W.heap.size W, w' = u.w) n (fun listed' a' w' => Region.seqB md ops (ops.size - n) n listed' = true ∧ T a' w') f listed (puts ops β D a0) w := by
 intro f
 induction f with
 | zero =>
  intro σ D β a0 w0 w ls listed hf s hB hb h
  have hσ : σ = [] := List.length_eq_zero_iff.1 (by omega)
  subst hσ
  have hlen : A.length ≤ D.length := by simp only [List.length_nil] at hf; omega
  have hp : D.Perm A := nodup_perm s.dn s.da hlen
  have e : listed = ls := by
   refine Array.ext (s.size.trans s.lsz.symm) fun i h1 h2 => ?_
   have e1 : listed.getD i false = listed[i] := by simp [h1]
   have e2 : ls.getD i false = ls[i] := by simp [h2]
   rw [← e1, ← e2, Bool.eq_iff_iff]
   refine ⟨s.sub i, fun hi => ?_⟩
   by_cases hA : i ∈ A
   ·exact (s.flo i hA).2 (hp.mem_iff.2 hA)
   ·exact s.sup i hi hA
  refine ⟨by rw [e]; exact hB, ?_⟩
  rw [puts_perm ok β a0 s.da hp]
  exact h w hb s.cw β ⟨fun i hi => s.good.1 i (hp.mem_iff.2 hi), fun i hi j hj => s.good.2 i (hp.mem_iff.2 hi) j (hp.mem_iff.2 hj)⟩
 | succ f ih =>
  intro σ D β a0 w0 w ls listed hf s hB hb h
  have allocs : ∀ i, i ∈ A → i ∉ D → i < n ∧ wpOp P ops Q i (fun a' w' => (∃ u : UpTo W.heap.size W, w' = u.w) ∧ wpAnyHL P md ops Q (fun w' => ∃ u : UpTo W.heap.size W, w' = u.w) n (fun listed' a' w' => Region.seqB md ops (ops.size - n) n listed' = true ∧ T a' w') f (listed.setIfInBounds i true) a' w') (puts ops β D a0) w := by
   intro i hA hD
   refine ⟨(ok.at_ i hA).1, made_step ok hAl hA hD ?_⟩
   have s' := s.made ok (Nat.le_refl _) hA hD
   refine ⟨up_iff.2 s'.cw, ih σ (i :: D) _ a0 w0 (w.alloc (z i)) ls _ ?_ s' hB (hb.alloc hb.size _) h⟩
   have hle : (i :: D).length ≤ A.length := nodup_le (List.nodup_cons.2 ⟨hD, s.dn⟩) s'.da
   simp only [List.length_cons] at hle ⊢
   omega
  match σ, hf, hB, h with
  | [], hf, hB, h =>
   have hpend : ∃ i, i ∈ A ∧ i ∉ D := by
    refine Classical.byContradiction fun hno => ?_
    have hsub : ∀ i ∈ A, i ∈ D := fun i hi => Classical.byContradiction fun h' => hno ⟨i, hi, h'⟩
    have := nodup_le ok.nodup hsub
    simp only [List.length_nil] at hf; omega
   obtain ⟨i, hA, hD⟩ := hpend
   have hri := s.pending ok hA hD
   refine ⟨fun h0 => (by rw [h0] at hri; cases hri), fun j hj => ?_⟩
   have hjn := headB_lt hh listed s.inv i (ok.at_ i hA).1 (mem_ready.1 hri).1 j hj
   rcases s.ready hj with ⟨h1, h2⟩ | ⟨_, h2⟩
   ·exact allocs j h1 h2
   ·have := seqB_ready hB j h2; omega
  | (true, i) :: σ, hf, hB, h =>
   simp only [schedB, Bool.and_eq_true, decide_eq_true_eq] at hB
   obtain ⟨⟨⟨hin, hr⟩, hfr⟩, hB'⟩ := hB
   obtain ⟨o, v, ho, hy, hK⟩ := h
   have hr' : i ∈ Region.ready md ops ls := by simpa using hr
   obtain ⟨hiA, hrl⟩ := s.ready_of ok hin hr'
   have hsj := Region.noSelect_spec hsel i o
   refine wpAnyHL_first ho (Region.noSelect_spec hsel) (fun c a d v w => (hQ c a d v w).1) hin (fun l il hu => headB_lt hh l il i hin hu) (fun l a w hL => seqB_ready hL.1) f listed _ w s.inv ?_ hrl
    (puts_yields ok β ho hin hiA (fun cs b => hsj cs b ho) a0 hy D s.da) (up_iff.2 s.cw) ?_
   ·intro j oj hj hji hun hno
    by_cases hjA : j ∈ A
    ·obtain ⟨_, oj', hoj', _, _, _, hall⟩ := ok.at_ j hjA
     obtain ⟨oi', hoi', _, _, hap⟩ := hall i hin (Ne.symm hji)
     obtain rfl : o = oi' := Option.some.inj (ho.symm.trans hoi')
     obtain rfl : oj = oj' := Option.some.inj (hj.symm.trans hoj')
     exact hap
    ·have hjs : j < ops.size := (Array.getElem?_eq_some_iff.1 hj).1
     refine Region.free_spec ho hfr j oj hj hji ?_ hno
     rw [getD_tf (by rw [s.lsz]; exact hjs)]
     rw [getD_tf (by rw [s.size]; exact hjs)] at hun
     cases hl : ls.getD j false with
     | false => rfl
     | true => rw [s.sup j hl hjA] at hun; cases hun
   ·rw [puts_put ok β ho hin hiA v a0 D s.da]
    exact ih σ D β _ w0 w _ _ (by simp only [List.length_cons] at hf; omega) (s.step hin hiA hrl (Below.refl _ _)) hB' hb hK
  | (false, i) :: σ, hf, hB, h =>
   simp only [schedB, Bool.and_eq_true, decide_eq_true_eq] at hB
   obtain ⟨⟨hin, hr⟩, hB'⟩ := hB
   obtain ⟨hiA, hrl⟩ := s.ready_of ok hin (by rw [hr]; simp : i ∈ Region.ready md ops ls)
   refine ⟨fun h0 => (by rw [h0] at hrl; cases hrl), fun j hj => ?_⟩
   rcases s.ready hj with ⟨h1, h2⟩ | ⟨_, h2⟩
   ·exact allocs j h1 h2
   ·have hji : j = i := by rw [hr] at h2; simpa using h2
    subst hji
    obtain ⟨_, o, ho, _⟩ := mem_ready.1 hrl
    have hsj := Region.noSelect_spec hsel j o
    refine ⟨hin, wpOp_mono (fun a' w' h' => ?_) (wpOp_at_puts ok β ho hin hiA (fun cs b => hsj cs b ho) hQ D s.da (h w hb))⟩
    obtain ⟨a1, rfl, hb1, hK⟩ := h'
    have s' := s.step hin hiA hrl hb1
    exact ⟨up_iff.2 s'.cw, ih σ D β a1 w' w' _ _ (by simp only [List.length_cons] at hf; omega) s' hB' (Below.refl _ _) hK⟩

/-- THE LAW: a region that draws its order and makes the new variables A (each of them the object z), walked by a schedule. -/
theorem wp_region_float {id : Nat} {a : Act} {w : World} {l : List Oper} (n : Nat) (A : List Nat) (z : Nat → Obj) (σ : List (Bool × Nat)) (hm : P.follows .mixedOrders = true)
    (hB : (Region.noSelect l.toArray && headB .any l.toArray n && decide (σ.length + A.length = n) && decide (n ≤ l.length) && floatB l.toArray n A &&
      schedB .any l.toArray n σ ((List.range l.length).map (fun i => A.contains i)).toArray) = true)
    (hQ : ∀ c a d v w, Q (.panic c) (Act.put a d v) w ↔ Q (.panic c) a w)
    (hAl : ∀ i ∈ A, ∀ oi, l[i]? = some oi → ∀ ρ w, (execOp ρ oi).run P w = .ok (.value (ptrTo w.heap.size)) (w.alloc (z i)))
    (h : wpF P l.toArray w Q (fun a w' => ∀ w1, Below w'.heap.size w' w1 → Below w.heap.size w w1 → ∀ β, Good w z β A w1 → wpList P l.toArray Q (l.drop n) (puts l.toArray β A a) w1) σ a w.drew) : (Code.region id l.toArray true).wp P Q a w := by
 simp only [Bool.and_eq_true, decide_eq_true_eq] at hB
 obtain ⟨⟨⟨⟨⟨hsel, hh⟩, hlen⟩, hn⟩, hfl⟩, hs⟩ := hB
 have ok := floatB_ok hfl
 have hdl : (l.drop n).length = l.toArray.size - n := by simp
 have hls : ∀ j, ((List.range l.length).map (fun i => A.contains i)).toArray.getD j false = true ↔ j ∈ A ∧ j < l.length := by
  intro j
  by_cases hj : j < l.length
  ·simp [hj]
  ·simp [hj]
 have s0 : FlSt .any l.toArray n A w z ((List.range l.length).map (fun i => A.contains i)).toArray (Array.replicate l.toArray.size false) [] (fun _ => 0) w.drew := by
  refine ⟨by simp, by simp, fun j hj => (by rw [getD_replicate_false] at hj; cases hj), fun j hj hA => absurd ((hls j).1 hj).1 hA, fun j _ => ?_, fun i hi => ?_, ?_, List.nodup_nil, fun i hi => (by cases hi), (Below.refl _ _).drew, fun i hi => (by cases hi), fun i hi => (by cases hi)⟩
  ·rw [getD_replicate_false]; simp
  ·obtain ⟨_, oi, hoi, _⟩ := ok.at_ i hi
   have := (Array.getElem?_eq_some_iff.1 hoi).1
   exact (hls i).2 ⟨hi, by simpa using this⟩
  ·exact ⟨by simp, fun j oj _ hl => (by rw [getD_replicate_false] at hl; cases hl), fun t _ ht => getD_in (by simpa using ht) (getD_replicate_false _ _)⟩
 have H := float_main (T := fun a' w' => wpList P l.toArray Q (l.drop n) a' w') hsel hh hQ ok (fun i hi oi ho => hAl i hi oi (by simpa using ho)) _ σ [] (fun _ => 0) a w.drew w.drew _ _ rfl s0 hs (Below.refl _ _) h
 refine wp_region_any hm ?_
 have := wpAny_of_headH (g := l.toArray.size - n) (fun listed a' w' hL => by
  have := wpAny_of_seq (md := .any) (Q' := Q) (l.drop n) n listed a' w' (fun j => by simp [List.getElem?_drop]) (by rw [hdl]; exact hL.1) hL.2
  rwa [hdl] at this) _ _ _ _ H
 have e : σ.length + (A.length - ([] : List Nat).length) + (l.toArray.size - n) = l.toArray.size := by simp; omega
 rw [e] at this
 exact this

/-- one step: it only reads or computes -/
theorem wpF_take {l : List Oper} {T : Act → World → Prop} {σ : List (Bool × Nat)} {i : Nat} {o : Oper} {a : Act} {w : World} (ho : l[i]? = some o) (hp : plainOp o.op = true)
    (h : wpQuiet P l.toArray (fun w' => ∃ u : UpTo W.heap.size W, w' = u.w) (fun a' => wpF P l.toArray W Q T σ a' w) [o] a) : wpF P l.toArray W Q T ((true, i) :: σ) a w := by
  have ho' : l.toArray[i]? = some o := by simpa using ho
  unfold wpQuiet at h
  by_cases hw : Region.wanted o (yielded l.toArray a.tmps) = true
  · rw [if_pos hw] at h
    obtain ⟨v, h1, h2⟩ := h
    exact ⟨o, v, ho', .inl ⟨hw, yields_of_quiet hp h1⟩, h2⟩
  · rw [if_neg hw] at h
    exact ⟨o, undef, ho', .inr ⟨by simpa using hw, rfl⟩, h⟩

/-- one step: a call -/
theorem wpF_do {l : List Oper} {T : Act → World → Prop} {σ : List (Bool × Nat)} {i : Nat} {o : Oper} {a : Act} {w : World} (ho : l[i]? = some o)
    (h : ∀ w1, Below w.heap.size w w1 → ∀ K : Act → World → Prop, Hid (∀ a' w', Below w1.heap.size w1 w' → wpF P l.toArray W Q T σ a' w' → K a' w') → wpList P l.toArray (Exit.then K Q) [o] a w1) : wpF P l.toArray W Q T ((false, i) :: σ) a w := by
  intro w1 hb
  have h := h w1 hb (fun a' w' => Below w1.heap.size w1 w' ∧ wpF P l.toArray W Q T σ a' w') (fun a' w' h1 h2 => ⟨h1, h2⟩)
  have ho' : l.toArray[i]? = some o := by simpa using ho
  unfold wpOp
  simp only [ho']
  unfold wpList at h
  by_cases hw : Region.wanted o (yielded l.toArray a.tmps) = true
  · rw [if_pos hw] at h ⊢
    rcases h with h | ⟨h1, h2⟩
    · exact .inl (upon_then h)
    · exact .inr ⟨h1, h2⟩
  · rw [if_neg hw] at h ⊢
    exact h

theorem wpF_nil {T : Act → World → Prop} {a : Act} {w : World} (h : T a w) : wpF P ops W Q T [] a w := h


theorem wpF_mono {T T' : Act → World → Prop} (h : ∀ a w, T a w → T' a w) : ∀ (σ : List (Bool × Nat)) (a : Act) (w : World), wpF P ops W Q T σ a w → wpF P ops W Q T' σ a w
  | [], _, _, hh => h _ _ hh
  | (true, _) :: σ, _, _, ⟨o, v, h1, h2, h3⟩ => ⟨o, v, h1, h2, wpF_mono h σ _ _ h3⟩
  | (false, _) :: σ, _, _, hh => fun w1 hb => wpOp_mono (fun _ _ h' => ⟨h'.1, wpF_mono h σ _ _ h'.2⟩) (hh w1 hb)

/-- what a new variable of type t holds: the cells c -/
def AllocRuns (P : Program) (t : TypeId) (c : Array Value) : Prop := ∀ w, (Instr.alloc t true (.tuple #[])).run P w = .ok (ptrTo w.heap.size) (w.alloc (.cells c t))

theorem alloc_of {t : TypeId} {c : Array Value} (h : AllocRuns P t c) (o : Oper) (ho : o.op = .alloc t) (ρ : Operand → Value) (w : World) :
    (execOp ρ o).run P w = .ok (.value (ptrTo w.heap.size)) (w.alloc (.cells c t)) := by
  unfold execOp
  rw [ho]
  show (do pure (Next.value (← Instr.alloc t true (.tuple #[]))) : Sem Next).run P w = _
  rw [Sem.run_bind, h w]
  rfl

/-- one new variable -/
theorem wp_region_float1 {id : Nat} {a : Act} {w : World} {l : List Oper} (n i : Nat) (σ : List (Bool × Nat)) {o : Oper} {d : Tmp} {t : TypeId} {c : Array Value} (hm : P.follows .mixedOrders = true)
    (hB : (Region.noSelect l.toArray && headB .any l.toArray n && decide (σ.length + [i].length = n) && decide (n ≤ l.length) && floatB l.toArray n [i] &&
      schedB .any l.toArray n σ ((List.range l.length).map (fun k => [i].contains k)).toArray) = true)
    (hQ : ∀ c a d v w, Q (.panic c) (Act.put a d v) w ↔ Q (.panic c) a w) (ho : l[i]? = some o) (hop : o.op = .alloc t) (hd : o.dst = some d) (hr : AllocRuns P t c)
    (h : wpF P l.toArray w Q (fun a w' => ∀ w1, Below w'.heap.size w' w1 → Below w.heap.size w w1 → ∀ b, w.heap.size ≤ b → w1.heap[b]? = some (.cells c t) → wpList P l.toArray Q (l.drop n) (a.put (some d) (ptrTo b)) w1) σ a w.drew) :
    (Code.region id l.toArray true).wp P Q a w := by
  refine wp_region_float n [i] (fun _ => .cells c t) σ hm hB hQ (fun k hk oi hoi ρ w => ?_) (wpF_mono (fun a w' h' w1 hb1 hb2 β hg => ?_) _ _ _ h)
  · obtain rfl : k = i := by simpa using hk
    obtain rfl : o = oi := Option.some.inj (ho.symm.trans hoi)
    exact alloc_of hr o hop ρ w
  · have h1 := hg.1 i (List.mem_singleton.2 rfl)
    have e : puts l.toArray β [i] a = a.put (some d) (ptrTo (β i)) := by
      show a.put (dstOf l.toArray i) _ = _
      simp [dstOf, ho, hd]
    rw [e]
    exact h' w1 hb1 hb2 _ h1.1 h1.2

end
end Go.Proofs.Ytkaolhlmimalkaa

namespace Go.Proofs.Ytkaolhlmimalkaa
open Go Go.RowKit

section
variable {P : Program} {ops : Array Oper} {Q : Exit → Act → World → Prop} {md : Region.Mode} {W : World}

/-- the class of worlds, until number j0 has come up -/
def ClsAt (C : World → Prop) (j0 : Nat) (listed : Array Bool) (w : World) : Prop := C w ∨ listed.getD j0 false = true

def wpAnyHS (P : Program) (md : Region.Mode) (ops : Array Oper) (Q : Exit → Act → World → Prop) (C : World → Prop) (j0 : Nat) (L : Array Bool → Act → World → Prop) : Nat → Array Bool → Act → World → Prop
  | 0, listed, a, w => L listed a w
  | f + 1, listed, a, w => Region.ready md ops listed ≠ [] ∧ ∀ i ∈ Region.ready md ops listed, wpOp P ops Q i (fun a' w' => ClsAt C j0 (listed.setIfInBounds i true) w' ∧ wpAnyHS P md ops Q C j0 L f (listed.setIfInBounds i true) a' w') a w

theorem wpAny_of_HS {C : World → Prop} {j0 g : Nat} {L : Array Bool → Act → World → Prop} (hL : ∀ listed a w, L listed a w → wpAny P md ops Q g listed a w) :
    ∀ (f : Nat) (listed : Array Bool) (a : Act) (w : World), wpAnyHS P md ops Q C j0 L f listed a w → wpAny P md ops Q (f + g) listed a w
  | 0, listed, a, w, h => by rw [Nat.zero_add]; exact hL _ _ _ h
  | f + 1, listed, a, w, h => by
    rw [show f + 1 + g = (f + g) + 1 by omega]
    exact ⟨fun h0 => absurd h0 h.1, fun i hi => wpOp_mono (fun a' w' h' => wpAny_of_HS hL f _ a' w' h'.2) (h.2 i hi)⟩

theorem HeadInv.all {listed : Array Bool} (h : HeadInv md ops ops.size listed) {i : Nat} (hi : i ∈ Region.ready md ops listed) : HeadInv md ops ops.size (listed.setIfInBounds i true) := by
  obtain ⟨_, o, ho, _⟩ := mem_ready.1 hi
  exact h.set hi (Array.getElem?_eq_some_iff.1 ho).1

theorem wpAnyHS_first {C D : World → Prop} {j0 i : Nat} {oi : Oper} {v : Value} {L : Array Bool → Act → World → Prop} (hi : ops[i]? = some oi) (hsel : ∀ (j : Nat) (o : Oper) cs b, ops[j]? = some o → o.op ≠ .select cs b)
    (hQ : ∀ c a d v w, Q (.panic c) (Act.put a d v) w → Q (.panic c) a w)
    (hij : i ≠ j0) (hD : ∀ listed w, HeadInv md ops ops.size listed → listed.getD i true = false → ClsAt C j0 listed w → D w)
    (hdone : ∀ listed a w, L listed a w → Region.ready md ops listed = []) :
    ∀ (f : Nat) (listed : Array Bool) (a : Act) (w : World), HeadInv md ops ops.size listed →
      (∀ j oj, ops[j]? = some oj → j ≠ i → listed.getD j true = false → (∀ e ∈ oj.after, Region.binds md e = true → e.on ≠ i) → oi.apart ops oj = true) →
      i ∈ Region.ready md ops listed → YieldsIf P ops D oi v a → ClsAt C j0 listed w →
      wpAnyHS P md ops Q C j0 L f (listed.setIfInBounds i true) (a.put oi.dst v) w → wpAnyHS P md ops Q C j0 L (f + 1) listed a w := by
 intro f
 have cls : ∀ (listed : Array Bool) (w : World), ClsAt C j0 listed w → ClsAt C j0 (listed.setIfInBounds i true) w := fun listed w h => h.imp id getD_set_true
 induction f with
 | zero =>
  intro listed a w inv _ hr hy hC H
  have hun := (mem_ready.1 hr).1
  refine ⟨fun h => (by rw [h] at hr; cases hr), fun j hj => ?_⟩
  by_cases hji : j = i
  ·subst hji; exact hy.wpOp hi (hD _ _ inv hun hC) ⟨cls _ _ hC, H⟩
  ·have h1 := hdone _ _ _ H
   have h2 := ready_mono hj hji
   rw [h1] at h2
   cases h2
 | succ f ih =>
  intro listed a w inv hfree hr hy hC H
  have hun := (mem_ready.1 hr).1
  refine ⟨fun h => (by rw [h] at hr; cases hr), fun j hj => ?_⟩
  by_cases hji : j = i
  ·subst hji; exact hy.wpOp hi (hD _ _ inv hun hC) ⟨cls _ _ hC, H⟩
  ·have h1 := H.2 j (ready_mono hj hji)
   obtain ⟨hjun, oj, hoj, hall⟩ := mem_ready.1 hj
   have hnot : ∀ e ∈ oj.after, Region.binds md e = true → e.on ≠ i := fun e he hb heq => by
    have h1 := hall e he hb
    rw [heq, getD_both hun] at h1
    cases h1
   have h2 := wpOp_putIf hoj (hfree j oj hoj hji hjun hnot) (fun cs b => hsel i oi cs b hi) (fun cs b => hsel j oj cs b hoj) (fun c a w => hQ c _ _ _ w) hy h1
   have hfree' : ∀ k ok, ops[k]? = some ok → k ≠ i → (listed.setIfInBounds j true).getD k true = false →
     (∀ e ∈ ok.after, Region.binds md e = true → e.on ≠ i) → oi.apart ops ok = true := fun k ok hk hki hun hno => by
    refine hfree k ok hk hki ?_ hno
    by_cases hjk : j = k
    ·subst hjk; exact hjun
    ·rw [getD_set_ne true hjk] at hun; exact hun
   refine wpOp_mono (fun a' w' h3 => ?_) h2
   have hc : ClsAt C j0 (listed.setIfInBounds j true) w' := by
    rcases h3.2.1 with h | h
    ·exact .inl h
    ·rw [Array.setIfInBounds_comm _ _ (Ne.symm hji)] at h
     rw [getD_set_ne false hij] at h; exact .inr h
   refine ⟨hc, ih (listed.setIfInBounds j true) a' w' (HeadInv.all inv hj) hfree' (ready_mono hr (Ne.symm hji)) h3.1 hc ?_⟩
   rw [Array.setIfInBounds_comm _ _ hji]
   exact h3.2.2

/-- the walk by a schedule: (0, i): it only reads or computes, in any world of the class; (2, i): it only computes; (1, i): it comes up alone, the class holds behind it; (3, i): it comes up alone -/
def wpG (P : Program) (ops : Array Oper) (C : World → Prop) (Q : Exit → Act → World → Prop) : List (Nat × Nat) → Act → World → Prop
  | [], a, w => Q .normal a w
  | (0, i) :: σ, a, w => ∃ o v, ops[i]? = some o ∧ YieldsIf P ops C o v a ∧ wpG P ops C Q σ (a.put o.dst v) w
  | (2, i) :: σ, a, w => ∃ o v, ops[i]? = some o ∧ YieldsIf P ops (fun _ => True) o v a ∧ wpG P ops C Q σ (a.put o.dst v) w
  | (1, i) :: σ, a, w => wpOp P ops Q i (fun a' w' => C w' ∧ wpG P ops C Q σ a' w') a w
  | (_, i) :: σ, a, w => wpOp P ops Q i (fun a' w' => wpG P ops C Q σ a' w') a w

/-- does number j wait for number i, by way of some others? -/
def waitsN (md : Region.Mode) (ops : Array Oper) : Nat → Nat → Nat → Bool
  | 0, j, i => Region.waitsFor md ops j i
  | n + 1, j, i => Region.waitsFor md ops j i || (List.range ops.size).any fun m => Region.waitsFor md ops j m && waitsN md ops n m i

theorem waits_listed {listed : Array Bool} {j i : Nat} (inv : HeadInv md ops ops.size listed) (hw : Region.waitsFor md ops j i = true) (h : listed.getD j false = true) : listed.getD i false = true := by
  obtain ⟨o, ho, e, he, hb, hon⟩ := Region.waitsFor_spec hw
  have h2 := inv.closed j o ho h e he hb
  rw [hon] at h2
  exact h2
theorem waitsN_listed {listed : Array Bool} (inv : HeadInv md ops ops.size listed) : ∀ (n j i : Nat), waitsN md ops n j i = true → listed.getD j false = true → listed.getD i false = true
  | 0, j, i, hw, h => waits_listed inv hw h
  | n + 1, j, i, hw, h => by
    unfold waitsN at hw
    rw [Bool.or_eq_true] at hw
    rcases hw with hw | hw
    · exact waits_listed inv hw h
    · obtain ⟨m, _, hm⟩ := List.any_eq_true.1 hw
      rw [Bool.and_eq_true] at hm
      exact waitsN_listed inv n m i hm.2 (waits_listed inv hm.1 h)

/-- does one item of the schedule fit the edges? -/
def itemB (md : Region.Mode) (ops : Array Oper) (j0 k i : Nat) (listed : Array Bool) : Bool :=
  match k with
  | 0 => i != j0 && (waitsN md ops 2 j0 i || decide (ops.size ≤ j0)) && (Region.ready md ops listed).contains i && Region.free md ops listed i
  | 2 => i != j0 && (Region.ready md ops listed).contains i && Region.free md ops listed i
  | 1 => i != j0 && decide (Region.ready md ops listed = [i])
  | _ => (i == j0 || listed.getD j0 false) && decide (Region.ready md ops listed = [i])

def schedG (md : Region.Mode) (ops : Array Oper) (j0 : Nat) : List (Nat × Nat) → Array Bool → Bool
  | [], listed => decide (Region.ready md ops listed = [])
  | (k, i) :: σ, listed => itemB md ops j0 k i listed && schedG md ops j0 σ (listed.setIfInBounds i true)

theorem cls_of {C : World → Prop} {j0 i : Nat} {listed : Array Bool} {w : World} (hw : (waitsN md ops 2 j0 i || decide (ops.size ≤ j0)) = true) (inv : HeadInv md ops ops.size listed) (hun : listed.getD i true = false)
    (h : ClsAt C j0 listed w) : C w := by
  rcases h with h | h
  · exact h
  · rw [Bool.or_eq_true, decide_eq_true_eq] at hw
    rcases hw with hw | hw
    · have h2 := waitsN_listed inv _ _ _ hw h
      rw [getD_both hun] at h2; cases h2
    · have : listed.getD j0 false = false := by
        have hs := inv.size
        simp [Array.getElem?_eq_none (by omega : listed.size ≤ j0)]
      rw [this] at h; cases h

theorem wpAnyHS_of_G {C : World → Prop} {j0 : Nat} (hsel : Region.noSelect ops = true) (hQ : ∀ c a d v w, Q (.panic c) (Act.put a d v) w → Q (.panic c) a w) :
    ∀ (σ : List (Nat × Nat)) (listed : Array Bool) (a : Act) (w : World), HeadInv md ops ops.size listed → schedG md ops j0 σ listed = true → ClsAt C j0 listed w → wpG P ops C Q σ a w →
    wpAnyHS P md ops Q C j0 (fun listed' a' w' => Region.ready md ops listed' = [] ∧ Q .normal a' w') σ.length listed a w
  | [], listed, a, w, _, hB, _, h => ⟨by simpa [schedG] using hB, h⟩
  | (0, i) :: σ, listed, a, w, inv, hB, hC, h => by
    simp only [schedG, itemB, Bool.and_eq_true, bne_iff_ne] at hB
    obtain ⟨⟨⟨⟨hij, hw⟩, hr⟩, hf⟩, hB'⟩ := hB
    obtain ⟨o, v, ho, hy, hK⟩ := h
    have hr' : i ∈ Region.ready md ops listed := by simpa using hr
    exact wpAnyHS_first ho (Region.noSelect_spec hsel) hQ hij (fun l w il hu hc => cls_of hw il hu hc) (fun l a w hL => hL.1) σ.length listed a w inv
      (Region.free_spec ho hf) hr' hy hC (wpAnyHS_of_G hsel hQ σ _ _ _ (HeadInv.all inv hr') hB' (hC.imp id getD_set_true) hK)
  | (2, i) :: σ, listed, a, w, inv, hB, hC, h => by
    simp only [schedG, itemB, Bool.and_eq_true, bne_iff_ne] at hB
    obtain ⟨⟨⟨hij, hr⟩, hf⟩, hB'⟩ := hB
    obtain ⟨o, v, ho, hy, hK⟩ := h
    have hr' : i ∈ Region.ready md ops listed := by simpa using hr
    exact wpAnyHS_first ho (Region.noSelect_spec hsel) hQ hij (fun _ _ _ _ _ => trivial) (fun l a w hL => hL.1) σ.length listed a w inv
      (Region.free_spec ho hf) hr' hy hC (wpAnyHS_of_G hsel hQ σ _ _ _ (HeadInv.all inv hr') hB' (hC.imp id getD_set_true) hK)
  | (1, i) :: σ, listed, a, w, inv, hB, hC, h => by
    simp only [schedG, itemB, Bool.and_eq_true, decide_eq_true_eq] at hB
    obtain ⟨⟨_, hr⟩, hB'⟩ := hB
    refine ⟨by rw [hr]; simp, fun j hj => ?_⟩
    have hji : j = i := by rw [hr] at hj; simpa using hj
    subst hji
    exact wpOp_mono (fun a' w' h' => ⟨.inl h'.1, wpAnyHS_of_G hsel hQ σ _ _ _ (HeadInv.all inv hj) hB' (.inl h'.1) h'.2⟩) h
  | (k + 3, i) :: σ, listed, a, w, inv, hB, hC, h => by
    simp only [schedG, itemB, Bool.and_eq_true, decide_eq_true_eq, Bool.or_eq_true, beq_iff_eq] at hB
    obtain ⟨⟨hj0, hr⟩, hB'⟩ := hB
    refine ⟨by rw [hr]; simp, fun j hj => ?_⟩
    have hji : j = i := by rw [hr] at hj; simpa using hj
    subst hji
    have hc : ∀ w', ClsAt C j0 (listed.setIfInBounds j true) w' := by
      intro w'
      refine .inr ?_
      rcases hj0 with h | h
      · subst h
        obtain ⟨_, o, ho, _⟩ := mem_ready.1 hj
        have := (Array.getElem?_eq_some_iff.1 ho).1
        rw [getD_set (by rw [inv.size]; exact this)]; simp
      · exact getD_set_true h
    exact wpOp_mono (fun a' w' h' => ⟨hc w', wpAnyHS_of_G hsel hQ σ _ _ _ (HeadInv.all inv hj) hB' (hc w') h'⟩) h

theorem HeadInv.none : HeadInv md ops ops.size (Array.replicate ops.size false) :=
  ⟨by simp, fun j oj _ hl => (by rw [getD_replicate_false] at hl; cases hl), fun t h1 h2 => by omega⟩

/-- THE LAW: a region that draws its order, walked by a schedule of all its operations; j0: the first that may leave the class. -/
theorem wp_region_G {id : Nat} {a : Act} {w : World} {l : List Oper} (j0 : Nat) (σ : List (Nat × Nat)) (hm : P.follows .mixedOrders = true)
    (hB : (Region.noSelect l.toArray && decide (σ.length = l.length) && schedG .any l.toArray j0 σ (Array.replicate l.length false)) = true)
    (hQ : ∀ c a d v w, Q (.panic c) (Act.put a d v) w ↔ Q (.panic c) a w)
    (h : wpG P l.toArray (fun w' => ∃ u : UpTo w.heap.size w, w' = u.w) Q σ a w.drew) : (Code.region id l.toArray true).wp P Q a w := by
  simp only [Bool.and_eq_true, decide_eq_true_eq] at hB
  obtain ⟨⟨hsel, hlen⟩, hs⟩ := hB
  have hrep : (Array.replicate l.length false) = Array.replicate l.toArray.size false := by simp
  rw [hrep] at hs
  have H := wpAnyHS_of_G (P := P) hsel (fun c a d v w => (hQ c a d v w).1) σ _ a w.drew HeadInv.none hs (.inl (up_iff.2 (Below.refl _ _).drew)) h
  refine wp_region_any hm ?_
  have := wpAny_of_HS (g := 0) (fun listed a' w' hL => (⟨hL.1, hL.2⟩ : wpAny P .any l.toArray Q 0 listed a' w')) _ _ _ _ H
  have e : σ.length + 0 = l.toArray.size := by simp [hlen]
  rw [e] at this
  exact this


theorem free_of {n n1 : Nat} {A : List Nat} {z : Nat → Obj} {ls listed : Array Bool} {D : List Nat} {β : Nat → Nat} {w : World} (s : FlSt md ops n A W z ls listed D β w) (ok : FloatOk ops n1 A) {i : Nat} {o : Oper} (hin : i < n1) (ho : ops[i]? = some o)
    (hfr : Region.free md ops ls i = true) : ∀ j oj, ops[j]? = some oj → j ≠ i → listed.getD j true = false → (∀ e ∈ oj.after, Region.binds md e = true → e.on ≠ i) → o.apart ops oj = true := by
  intro j oj hj hji hun hno
  by_cases hjA : j ∈ A
  · obtain ⟨_, oj', hoj', _, _, _, hall⟩ := ok.at_ j hjA
    obtain ⟨oi', hoi', _, _, hap⟩ := hall i hin (Ne.symm hji)
    obtain rfl : o = oi' := Option.some.inj (ho.symm.trans hoi')
    obtain rfl : oj = oj' := Option.some.inj (hj.symm.trans hoj')
    exact hap
  · have hjs : j < ops.size := (Array.getElem?_eq_some_iff.1 hj).1
    refine Region.free_spec ho hfr j oj hj hji ?_ hno
    rw [getD_tf (by rw [s.lsz]; exact hjs)]
    rw [getD_tf (by rw [s.size]; exact hjs)] at hun
    cases hl : ls.getD j false with
    | false => rfl
    | true => rw [s.sup j hl hjA] at hun; cases hun

/-- the walk by a schedule of what comes ahead of the first store, the world growing between its steps -/
def wpFG (P : Program) (ops : Array Oper) (W : World) (Q : Exit → Act → World → Prop) (T : Act → World → Prop) : List (Nat × Nat) → Act → World → Prop
  | [], a, w => T a w
  | (0, i) :: σ, a, w => ∃ o v, ops[i]? = some o ∧ YieldsIf P ops (fun w' => ∃ u : UpTo W.heap.size W, w' = u.w) o v a ∧ wpFG P ops W Q T σ (a.put o.dst v) w
  | (2, i) :: σ, a, w => ∃ o v, ops[i]? = some o ∧ YieldsIf P ops (fun _ => True) o v a ∧ wpFG P ops W Q T σ (a.put o.dst v) w
  | (_, i) :: σ, a, w => ∀ w1, Below w.heap.size w w1 → wpOp P ops Q i (fun a' w' => Below w1.heap.size w1 w' ∧ wpFG P ops W Q T σ a' w') a w1

/-- the first part of a schedule: its items lie below j0, and none of them is number j0 or comes behind it -/
def schedFG (md : Region.Mode) (ops : Array Oper) (j0 : Nat) (τ : List (Nat × Nat)) : List (Nat × Nat) → Array Bool → Bool
  | [], listed => decide (Region.ready md ops listed = [j0]) && schedG md ops j0 τ listed
  | (k, i) :: σ, listed => decide (i < j0) && (k == 0 || k == 1 || k == 2) && itemB md ops j0 k i listed && schedFG md ops j0 τ σ (listed.setIfInBounds i true)

theorem floatG_main {j0 : Nat} {A : List Nat} {z : Nat → Obj} {τ : List (Nat × Nat)} (hsel : Region.noSelect ops = true) (hQ : ∀ c a d v w, Q (.panic c) (Act.put a d v) w ↔ Q (.panic c) a w) (hj0 : j0 < ops.size)
    (ok : FloatOk ops j0 A) (hAw : ∀ i ∈ A, Region.waitsFor md ops j0 i = true) (hAl : ∀ i ∈ A, ∀ oi, ops[i]? = some oi → ∀ ρ w, (execOp ρ oi).run P w = .ok (.value (ptrTo w.heap.size)) (w.alloc (z i))) :
    ∀ (f : Nat) (σ : List (Nat × Nat)) (D : List Nat) (β : Nat → Nat) (a0 : Act) (w0 w : World) (ls listed : Array Bool), σ.length + (A.length - D.length) = f → FlSt md ops ops.size A W z ls listed D β w →
      schedFG md ops j0 τ σ ls = true → Below w0.heap.size w0 w → wpFG P ops W Q (fun a w => ∀ w1, Below w.heap.size w w1 → Below W.heap.size W w1 → ∀ β, Good W z β A w1 → wpG P ops (fun w' => ∃ u : UpTo W.heap.size W, w' = u.w) Q τ (puts ops β A a) w1) σ a0 w0 →
      wpAnyHS P md ops Q (fun w' => ∃ u : UpTo W.heap.size W, w' = u.w) j0 (fun listed' a' w' => Region.ready md ops listed' = [] ∧ Q .normal a' w') (f + τ.length) listed (puts ops β D a0) w := by
 intro f
 have fin : ∀ (D : List Nat) (β : Nat → Nat) (a0 : Act) (w0 w : World) (ls listed : Array Bool), A.length ≤ D.length → FlSt md ops ops.size A W z ls listed D β w → schedG md ops j0 τ ls = true → Below w0.heap.size w0 w →
   (∀ w1, Below w0.heap.size w0 w1 → Below W.heap.size W w1 → ∀ β, Good W z β A w1 → wpG P ops (fun w' => ∃ u : UpTo W.heap.size W, w' = u.w) Q τ (puts ops β A a0) w1) →
   wpAnyHS P md ops Q (fun w' => ∃ u : UpTo W.heap.size W, w' = u.w) j0 (fun listed' a' w' => Region.ready md ops listed' = [] ∧ Q .normal a' w') τ.length listed (puts ops β D a0) w := by
  intro D β a0 w0 w ls listed hlen s hB hb h
  have hp : D.Perm A := nodup_perm s.dn s.da hlen
  have e : listed = ls := by
   refine Array.ext (s.size.trans s.lsz.symm) fun i h1 h2 => ?_
   have e1 : listed.getD i false = listed[i] := by simp [h1]
   have e2 : ls.getD i false = ls[i] := by simp [h2]
   rw [← e1, ← e2, Bool.eq_iff_iff]
   refine ⟨s.sub i, fun hi => ?_⟩
   by_cases hA : i ∈ A
   ·exact (s.flo i hA).2 (hp.mem_iff.2 hA)
   ·exact s.sup i hi hA
  rw [puts_perm ok β a0 s.da hp, e]
  exact wpAnyHS_of_G hsel (fun c a d v w => (hQ c a d v w).1) τ ls _ w (e ▸ s.inv) hB (.inl (up_iff.2 s.cw)) (h w hb s.cw β ⟨fun i hi => s.good.1 i (hp.mem_iff.2 hi), fun i hi j hj => s.good.2 i (hp.mem_iff.2 hi) j (hp.mem_iff.2 hj)⟩)
 induction f with
 | zero =>
  intro σ D β a0 w0 w ls listed hf s hB hb h
  have hσ : σ = [] := List.length_eq_zero_iff.1 (by omega)
  subst hσ
  simp only [schedFG, Bool.and_eq_true] at hB
  rw [Nat.zero_add]
  exact fin D β a0 w0 w ls listed (by simp only [List.length_nil] at hf; omega) s hB.2 hb h
 | succ f ih =>
  intro σ D β a0 w0 w ls listed hf s hB hb h
  rw [show f + 1 + τ.length = (f + τ.length) + 1 by omega]
  have allocs : ∀ i, i ∈ A → i ∉ D → wpOp P ops Q i (fun a' w' => ClsAt (fun w' => ∃ u : UpTo W.heap.size W, w' = u.w) j0 (listed.setIfInBounds i true) w' ∧ wpAnyHS P md ops Q (fun w' => ∃ u : UpTo W.heap.size W, w' = u.w) j0 (fun listed' a' w' => Region.ready md ops listed' = [] ∧ Q .normal a' w') (f + τ.length) (listed.setIfInBounds i true) a' w') (puts ops β D a0) w := by
   intro i hA hD
   refine made_step ok hAl hA hD ?_
   have s' := s.made ok (Nat.le_of_lt hj0) hA hD
   refine ⟨.inl (up_iff.2 s'.cw), ih σ (i :: D) _ a0 w0 (w.alloc (z i)) ls _ ?_ s' hB (hb.alloc hb.size _) h⟩
   have hle : (i :: D).length ≤ A.length := nodup_le (List.nodup_cons.2 ⟨hD, s.dn⟩) s'.da
   simp only [List.length_cons] at hle ⊢
   omega
  match σ, hf, hB, h with
  | [], hf, hB, h =>
   simp only [schedFG, Bool.and_eq_true, decide_eq_true_eq] at hB
   have hpend : ∃ i, i ∈ A ∧ i ∉ D := by
    refine Classical.byContradiction fun hno => ?_
    have hsub : ∀ i ∈ A, i ∈ D := fun i hi => Classical.byContradiction fun h' => hno ⟨i, hi, h'⟩
    have := nodup_le ok.nodup hsub
    simp only [List.length_nil] at hf; omega
   obtain ⟨i, hA, hD⟩ := hpend
   have hri := s.pending ok hA hD
   refine ⟨fun h0 => (by rw [h0] at hri; cases hri), fun j hj => ?_⟩
   rcases s.ready hj with ⟨h1, h2⟩ | ⟨_, h2⟩
   ·exact allocs j h1 h2
   ·rw [hB.1] at h2
    have hjj : j = j0 := by simpa using h2
    subst hjj
    obtain ⟨o, ho, e, he, hbd, hon⟩ := Region.waitsFor_spec (hAw i hA)
    obtain ⟨_, o', ho', hall⟩ := mem_ready.1 hj
    obtain rfl : o = o' := Option.some.inj (ho.symm.trans ho')
    have h3 := hall e he hbd
    rw [hon] at h3
    exact absurd ((s.flo i hA).1 h3) hD
  | (0, i) :: σ, hf, hB, h =>
   simp only [schedFG, itemB, Bool.and_eq_true, decide_eq_true_eq, bne_iff_ne] at hB
   obtain ⟨⟨⟨hin, _⟩, ⟨⟨hij, hw⟩, hr⟩, hfr⟩, hB'⟩ := hB
   obtain ⟨o, v, ho, hy, hK⟩ := h
   have hr' : i ∈ Region.ready md ops ls := by simpa using hr
   obtain ⟨hiA, hrl⟩ := s.ready_of ok hin hr'
   have hsj := Region.noSelect_spec hsel i o
   refine wpAnyHS_first ho (Region.noSelect_spec hsel) (fun c a d v w => (hQ c a d v w).1) hij (fun l w il hu hc => cls_of hw il hu hc) (fun l a w hL => hL.1) _ listed _ w s.inv
    (free_of s ok hin ho hfr) hrl (puts_yields ok β ho hin hiA (fun cs b => hsj cs b ho) a0 hy D s.da) (.inl (up_iff.2 s.cw)) ?_
   rw [puts_put ok β ho hin hiA v a0 D s.da]
   exact ih σ D β _ w0 w _ _ (by simp only [List.length_cons] at hf; omega) (s.step (Nat.lt_trans hin hj0) hiA hrl (Below.refl _ _)) hB' hb hK
  | (2, i) :: σ, hf, hB, h =>
   simp only [schedFG, itemB, Bool.and_eq_true, decide_eq_true_eq, bne_iff_ne] at hB
   obtain ⟨⟨⟨hin, _⟩, ⟨hij, hr⟩, hfr⟩, hB'⟩ := hB
   obtain ⟨o, v, ho, hy, hK⟩ := h
   have hr' : i ∈ Region.ready md ops ls := by simpa using hr
   obtain ⟨hiA, hrl⟩ := s.ready_of ok hin hr'
   have hsj := Region.noSelect_spec hsel i o
   refine wpAnyHS_first ho (Region.noSelect_spec hsel) (fun c a d v w => (hQ c a d v w).1) hij (fun _ _ _ _ _ => trivial) (fun l a w hL => hL.1) _ listed _ w s.inv
    (free_of s ok hin ho hfr) hrl (puts_yields ok β ho hin hiA (fun cs b => hsj cs b ho) a0 hy D s.da) (.inl (up_iff.2 s.cw)) ?_
   rw [puts_put ok β ho hin hiA v a0 D s.da]
   exact ih σ D β _ w0 w _ _ (by simp only [List.length_cons] at hf; omega) (s.step (Nat.lt_trans hin hj0) hiA hrl (Below.refl _ _)) hB' hb hK
  | (1, i) :: σ, hf, hB, h =>
   simp only [schedFG, itemB, Bool.and_eq_true, decide_eq_true_eq, bne_iff_ne] at hB
   obtain ⟨⟨⟨hin, _⟩, hij, hr⟩, hB'⟩ := hB
   obtain ⟨hiA, hrl⟩ := s.ready_of ok hin (by rw [hr]; simp : i ∈ Region.ready md ops ls)
   refine ⟨fun h0 => (by rw [h0] at hrl; cases hrl), fun j hj => ?_⟩
   rcases s.ready hj with ⟨h1, h2⟩ | ⟨_, h2⟩
   ·exact allocs j h1 h2
   ·have hji : j = i := by rw [hr] at h2; simpa using h2
    subst hji
    obtain ⟨_, o, ho, _⟩ := mem_ready.1 hrl
    have hsj := Region.noSelect_spec hsel j o
    refine wpOp_mono (fun a' w' h' => ?_) (wpOp_at_puts ok β ho hin hiA (fun cs b => hsj cs b ho) hQ D s.da (h w hb))
    obtain ⟨a1, rfl, hb1, hK⟩ := h'
    have s' := s.step (Nat.lt_trans hin hj0) hiA hrl hb1
    exact ⟨.inl (up_iff.2 s'.cw), ih σ D β a1 w' w' _ _ (by simp only [List.length_cons] at hf; omega) s' hB' (Below.refl _ _) hK⟩
  | (k + 3, i) :: σ, hf, hB, h =>
   simp only [schedFG, Bool.and_eq_true] at hB
   obtain ⟨⟨⟨_, hk⟩, _⟩, _⟩ := hB
   simp at hk


theorem wpFG_mono {T T' : Act → World → Prop} (h : ∀ a w, T a w → T' a w) : ∀ (σ : List (Nat × Nat)) (a : Act) (w : World), wpFG P ops W Q T σ a w → wpFG P ops W Q T' σ a w
  | [], _, _, hh => h _ _ hh
  | (0, _) :: σ, _, _, ⟨o, v, h1, h2, h3⟩ => ⟨o, v, h1, h2, wpFG_mono h σ _ _ h3⟩
  | (2, _) :: σ, _, _, ⟨o, v, h1, h2, h3⟩ => ⟨o, v, h1, h2, wpFG_mono h σ _ _ h3⟩
  | (1, _) :: σ, _, _, hh => fun w1 hb => wpOp_mono (fun _ _ h' => ⟨h'.1, wpFG_mono h σ _ _ h'.2⟩) (hh w1 hb)
  | (_ + 3, _) :: σ, _, _, hh => fun w1 hb => wpOp_mono (fun _ _ h' => ⟨h'.1, wpFG_mono h σ _ _ h'.2⟩) (hh w1 hb)

/-- THE LAW: new variables A, and several stores. -/
theorem wp_region_FG {id : Nat} {a : Act} {w : World} {l : List Oper} (j0 : Nat) (A : List Nat) (z : Nat → Obj) (σ τ : List (Nat × Nat)) (hm : P.follows .mixedOrders = true)
    (hB : (Region.noSelect l.toArray && decide (σ.length + A.length + τ.length = l.length) && decide (j0 < l.length) && floatB l.toArray j0 A && (A.all fun i => Region.waitsFor .any l.toArray j0 i) &&
      schedFG .any l.toArray j0 τ σ ((List.range l.length).map (fun i => A.contains i)).toArray) = true)
    (hQ : ∀ c a d v w, Q (.panic c) (Act.put a d v) w ↔ Q (.panic c) a w)
    (hAl : ∀ i ∈ A, ∀ oi, l[i]? = some oi → ∀ ρ w, (execOp ρ oi).run P w = .ok (.value (ptrTo w.heap.size)) (w.alloc (z i)))
    (h : wpFG P l.toArray w Q (fun a w' => ∀ w1, Below w'.heap.size w' w1 → Below w.heap.size w w1 → ∀ β, Good w z β A w1 → wpG P l.toArray (fun w' => ∃ u : UpTo w.heap.size w, w' = u.w) Q τ (puts l.toArray β A a) w1) σ a w.drew) : (Code.region id l.toArray true).wp P Q a w := by
 simp only [Bool.and_eq_true, decide_eq_true_eq] at hB
 obtain ⟨⟨⟨⟨⟨hsel, hlen⟩, hj⟩, hfl⟩, hw⟩, hs⟩ := hB
 have ok := floatB_ok hfl
 have hls : ∀ j, ((List.range l.length).map (fun i => A.contains i)).toArray.getD j false = true ↔ j ∈ A ∧ j < l.length := by
  intro j
  by_cases hj : j < l.length
  ·simp [hj]
  ·simp [hj]
 have s0 : FlSt .any l.toArray l.toArray.size A w z ((List.range l.length).map (fun i => A.contains i)).toArray (Array.replicate l.toArray.size false) [] (fun _ => 0) w.drew := by
  refine ⟨by simp, by simp, fun j hj => (by rw [getD_replicate_false] at hj; cases hj), fun j hj hA => absurd ((hls j).1 hj).1 hA, fun j _ => ?_, fun i hi => ?_, HeadInv.none, List.nodup_nil, fun i hi => (by cases hi), (Below.refl _ _).drew, fun i hi => (by cases hi), fun i hi => (by cases hi)⟩
  ·rw [getD_replicate_false]; simp
  ·obtain ⟨_, oi, hoi, _⟩ := ok.at_ i hi
   have := (Array.getElem?_eq_some_iff.1 hoi).1
   exact (hls i).2 ⟨hi, by simpa using this⟩
 have H := floatG_main (τ := τ) hsel hQ (by simpa using hj) ok (fun i hi => List.all_eq_true.1 hw i hi) (fun i hi oi ho => hAl i hi oi (by simpa using ho)) _ σ [] (fun _ => 0) a w.drew w.drew _ _ rfl s0 hs (Below.refl _ _) h
 refine wp_region_any hm ?_
 have := wpAny_of_HS (g := 0) (fun listed a' w' hL => (⟨hL.1, hL.2⟩ : wpAny P .any l.toArray Q 0 listed a' w')) _ _ _ _ H
 have e : σ.length + (A.length - ([] : List Nat).length) + τ.length + 0 = l.toArray.size := by simp; omega
 rw [e] at this
 exact this

/-- one new variable, several stores -/
theorem wp_region_FG1 {id : Nat} {a : Act} {w : World} {l : List Oper} (j0 i : Nat) (σ τ : List (Nat × Nat)) {o : Oper} {d : Tmp} {t : TypeId} {c : Array Value} (hm : P.follows .mixedOrders = true)
    (hB : (Region.noSelect l.toArray && decide (σ.length + [i].length + τ.length = l.length) && decide (j0 < l.length) && floatB l.toArray j0 [i] && ([i].all fun i => Region.waitsFor .any l.toArray j0 i) &&
      schedFG .any l.toArray j0 τ σ ((List.range l.length).map (fun k => [i].contains k)).toArray) = true)
    (hQ : ∀ c a d v w, Q (.panic c) (Act.put a d v) w ↔ Q (.panic c) a w) (ho : l[i]? = some o) (hop : o.op = .alloc t) (hd : o.dst = some d) (hr : AllocRuns P t c)
    (h : wpFG P l.toArray w Q (fun a w' => ∀ w1, Below w'.heap.size w' w1 → Below w.heap.size w w1 → ∀ b, w.heap.size ≤ b → w1.heap[b]? = some (.cells c t) →
      wpG P l.toArray (fun w' => ∃ u : UpTo w.heap.size w, w' = u.w) Q τ (a.put (some d) (ptrTo b)) w1) σ a w.drew) :
    (Code.region id l.toArray true).wp P Q a w := by
  refine wp_region_FG j0 [i] (fun _ => .cells c t) σ τ hm hB hQ (fun k hk oi hoi ρ w => ?_) (wpFG_mono (fun a w' h' w1 hb1 hb2 β hg => ?_) _ _ _ h)
  · obtain rfl : k = i := by simpa using hk
    obtain rfl : o = oi := Option.some.inj (ho.symm.trans hoi)
    exact alloc_of hr o hop ρ w
  · have h1 := hg.1 i (List.mem_singleton.2 rfl)
    have e : puts l.toArray β [i] a = a.put (some d) (ptrTo (β i)) := by
      show a.put (dstOf l.toArray i) _ = _
      simp [dstOf, ho, hd]
    rw [e]
    exact h' w1 hb1 hb2 _ h1.1 h1.2

/-- two new variables, several stores -/
theorem wp_region_FG2 {id : Nat} {a : Act} {w : World} {l : List Oper} (j0 i j : Nat) (σ τ : List (Nat × Nat)) {o o' : Oper} {d d' : Tmp} {t t' : TypeId} {c c' : Array Value} (hm : P.follows .mixedOrders = true)
    (hB : (Region.noSelect l.toArray && decide (σ.length + [i, j].length + τ.length = l.length) && decide (j0 < l.length) && floatB l.toArray j0 [i, j] && ([i, j].all fun i => Region.waitsFor .any l.toArray j0 i) &&
      schedFG .any l.toArray j0 τ σ ((List.range l.length).map (fun k => [i, j].contains k)).toArray) = true)
    (hQ : ∀ c a d v w, Q (.panic c) (Act.put a d v) w ↔ Q (.panic c) a w) (ho : l[i]? = some o) (hop : o.op = .alloc t) (hd : o.dst = some d) (hr : AllocRuns P t c)
    (ho' : l[j]? = some o') (hop' : o'.op = .alloc t') (hd' : o'.dst = some d') (hr' : AllocRuns P t' c') (hij : (i == j) = false)
    (h : wpFG P l.toArray w Q (fun a w' => ∀ w1, Below w'.heap.size w' w1 → Below w.heap.size w w1 → ∀ b b', b ≠ b' → w.heap.size ≤ b → w1.heap[b]? = some (.cells c t) → w.heap.size ≤ b' → w1.heap[b']? = some (.cells c' t') →
      wpG P l.toArray (fun w' => ∃ u : UpTo w.heap.size w, w' = u.w) Q τ ((a.put (some d') (ptrTo b')).put (some d) (ptrTo b)) w1) σ a w.drew) :
    (Code.region id l.toArray true).wp P Q a w := by
  have hij : i ≠ j := by simpa using hij
  refine wp_region_FG j0 [i, j] (fun k => if k = i then .cells c t else .cells c' t') σ τ hm hB hQ (fun k hk oi hoi ρ w => ?_) (wpFG_mono (fun a w' h' w1 hb1 hb2 β hg => ?_) _ _ _ h)
  · rcases List.mem_cons.1 hk with rfl | hk
    · obtain rfl : o = oi := Option.some.inj (ho.symm.trans hoi)
      rw [if_pos rfl]; exact alloc_of hr o hop ρ w
    · obtain rfl : k = j := by simpa using hk
      obtain rfl : o' = oi := Option.some.inj (ho'.symm.trans hoi)
      rw [if_neg (Ne.symm hij)]; exact alloc_of hr' o' hop' ρ w
  · have h1 := hg.1 i (by simp)
    have h2 := hg.1 j (by simp)
    simp only [if_pos] at h1
    simp only [if_neg (Ne.symm hij)] at h2
    have e : puts l.toArray β [i, j] a = (a.put (some d') (ptrTo (β j))).put (some d) (ptrTo (β i)) := by
      show (a.put (dstOf l.toArray j) _).put (dstOf l.toArray i) _ = _
      simp [dstOf, ho, hd, ho', hd']
    rw [e]
    exact h' w1 hb1 hb2 _ _ (hg.2 i (by simp) j (by simp) hij) h1.1 h1.2 h2.1 h2.2

theorem quiet_item {C : World → Prop} {l : List Oper} {o : Oper} {a : Act} {K : Act → Prop} (hp : plainOp o.op = true) (h : wpQuiet P l.toArray C K [o] a) : ∃ v, YieldsIf P l.toArray C o v a ∧ K (a.put o.dst v) := by
  unfold wpQuiet at h
  by_cases hw : Region.wanted o (yielded l.toArray a.tmps) = true
  · rw [if_pos hw] at h
    obtain ⟨v, h1, h2⟩ := h
    exact ⟨v, .inl ⟨hw, yields_of_quiet hp h1⟩, h2⟩
  · rw [if_neg hw] at h
    exact ⟨undef, .inr ⟨by simpa using hw, rfl⟩, h⟩
theorem do_item {l : List Oper} {i : Nat} {o : Oper} {a : Act} {w : World} {R : Act → World → Prop} (ho : l[i]? = some o) (h : wpList P l.toArray (Exit.then R Q) [o] a w) : wpOp P l.toArray Q i R a w := by
  have ho' : l.toArray[i]? = some o := by simpa using ho
  unfold wpOp
  simp only [ho']
  unfold wpList at h
  by_cases hw : Region.wanted o (yielded l.toArray a.tmps) = true
  · rw [if_pos hw] at h ⊢
    rcases h with h | ⟨h1, h2⟩
    · exact .inl (upon_then h)
    · exact .inr ⟨h1, h2⟩
  · rw [if_neg hw] at h ⊢
    exact h

variable {C : World → Prop} {l : List Oper} {T : Act → World → Prop} {σ : List (Nat × Nat)} {i : Nat} {o : Oper} {a : Act} {w : World}
theorem wpG_take0 (ho : l[i]? = some o) (hp : plainOp o.op = true) (h : wpQuiet P l.toArray C (fun a' => wpG P l.toArray C Q σ a' w) [o] a) : wpG P l.toArray C Q ((0, i) :: σ) a w := by
  obtain ⟨v, h1, h2⟩ := quiet_item hp h
  exact ⟨o, v, by simpa using ho, h1, h2⟩
theorem wpG_take2 (ho : l[i]? = some o) (hp : plainOp o.op = true) (h : wpQuiet P l.toArray (fun _ => True) (fun a' => wpG P l.toArray C Q σ a' w) [o] a) : wpG P l.toArray C Q ((2, i) :: σ) a w := by
  obtain ⟨v, h1, h2⟩ := quiet_item hp h
  exact ⟨o, v, by simpa using ho, h1, h2⟩
theorem wpG_do1 (ho : l[i]? = some o) (h : ∀ K : Act → World → Prop, Hid (∀ a' w', C w' → wpG P l.toArray C Q σ a' w' → K a' w') → wpList P l.toArray (Exit.then K Q) [o] a w) : wpG P l.toArray C Q ((1, i) :: σ) a w :=
  do_item ho (h _ (fun _ _ h1 h2 => ⟨h1, h2⟩))
theorem wpG_do3 (ho : l[i]? = some o) (h : ∀ K : Act → World → Prop, Hid (∀ a' w', wpG P l.toArray C Q σ a' w' → K a' w') → wpList P l.toArray (Exit.then K Q) [o] a w) : wpG P l.toArray C Q ((3, i) :: σ) a w :=
  do_item ho (h _ (fun _ _ h1 => h1))
theorem wpG_nil (h : wpList P l.toArray Q [] a w) : wpG P l.toArray C Q [] a w := h
theorem wpFG_take0 (ho : l[i]? = some o) (hp : plainOp o.op = true) (h : wpQuiet P l.toArray (fun w' => ∃ u : UpTo W.heap.size W, w' = u.w) (fun a' => wpFG P l.toArray W Q T σ a' w) [o] a) : wpFG P l.toArray W Q T ((0, i) :: σ) a w := by
  obtain ⟨v, h1, h2⟩ := quiet_item hp h
  exact ⟨o, v, by simpa using ho, h1, h2⟩
theorem wpFG_take2 (ho : l[i]? = some o) (hp : plainOp o.op = true) (h : wpQuiet P l.toArray (fun _ => True) (fun a' => wpFG P l.toArray W Q T σ a' w) [o] a) : wpFG P l.toArray W Q T ((2, i) :: σ) a w := by
  obtain ⟨v, h1, h2⟩ := quiet_item hp h
  exact ⟨o, v, by simpa using ho, h1, h2⟩
theorem wpFG_do (ho : l[i]? = some o) (h : ∀ w1, Below w.heap.size w w1 → ∀ K : Act → World → Prop, Hid (∀ a' w', Below w1.heap.size w1 w' → wpFG P l.toArray W Q T σ a' w' → K a' w') → wpList P l.toArray (Exit.then K Q) [o] a w1) : wpFG P l.toArray W Q T ((1, i) :: σ) a w :=
  fun w1 hb => do_item ho (h w1 hb _ (fun _ _ h1 h2 => ⟨h1, h2⟩))
theorem wpFG_nil (h : T a w) : wpFG P l.toArray W Q T [] a w := h

end
end Go.Proofs.Ytkaolhlmimalkaa
namespace Go.Proofs.Ytkaolhlmimalkaa.Far
open Go Go.RowKit Go.Proofs.Ytkaolhlmimalkaa
section
variable {P : Program} {ops : Array Oper} {Q : Exit → Act → World → Prop} {md : Region.Mode} {W : World}

/-- does one item of the schedule fit the edges? -/
def itemB (md : Region.Mode) (ops : Array Oper) (j0 k i : Nat) (listed : Array Bool) : Bool :=
  match k with
  | 0 => i != j0 && (waitsN md ops 7 j0 i || decide (ops.size ≤ j0)) && (Region.ready md ops listed).contains i && Region.free md ops listed i
  | 2 => i != j0 && (Region.ready md ops listed).contains i && Region.free md ops listed i
  | 1 => i != j0 && decide (Region.ready md ops listed = [i])
  | _ => (i == j0 || listed.getD j0 false) && decide (Region.ready md ops listed = [i])

def schedG (md : Region.Mode) (ops : Array Oper) (j0 : Nat) : List (Nat × Nat) → Array Bool → Bool
  | [], listed => decide (Region.ready md ops listed = [])
  | (k, i) :: σ, listed => itemB md ops j0 k i listed && schedG md ops j0 σ (listed.setIfInBounds i true)

theorem cls_of {C : World → Prop} {j0 i : Nat} {listed : Array Bool} {w : World} (hw : (waitsN md ops 7 j0 i || decide (ops.size ≤ j0)) = true) (inv : HeadInv md ops ops.size listed) (hun : listed.getD i true = false)
    (h : ClsAt C j0 listed w) : C w := by
  rcases h with h | h
  · exact h
  · rw [Bool.or_eq_true, decide_eq_true_eq] at hw
    rcases hw with hw | hw
    · have h2 := waitsN_listed inv _ _ _ hw h
      rw [getD_both hun] at h2; cases h2
    · have : listed.getD j0 false = false := by
        have hs := inv.size
        simp [Array.getElem?_eq_none (by omega : listed.size ≤ j0)]
      rw [this] at h; cases h

theorem wpAnyHS_of_G {C : World → Prop} {j0 : Nat} (hsel : Region.noSelect ops = true) (hQ : ∀ c a d v w, Q (.panic c) (Act.put a d v) w → Q (.panic c) a w) :
    ∀ (σ : List (Nat × Nat)) (listed : Array Bool) (a : Act) (w : World), HeadInv md ops ops.size listed → schedG md ops j0 σ listed = true → ClsAt C j0 listed w → wpG P ops C Q σ a w →
    wpAnyHS P md ops Q C j0 (fun listed' a' w' => Region.ready md ops listed' = [] ∧ Q .normal a' w') σ.length listed a w
  | [], listed, a, w, _, hB, _, h => ⟨by simpa [schedG] using hB, h⟩
  | (0, i) :: σ, listed, a, w, inv, hB, hC, h => by
    simp only [schedG, itemB, Bool.and_eq_true, bne_iff_ne] at hB
    obtain ⟨⟨⟨⟨hij, hw⟩, hr⟩, hf⟩, hB'⟩ := hB
    obtain ⟨o, v, ho, hy, hK⟩ := h
    have hr' : i ∈ Region.ready md ops listed := by simpa using hr
    exact wpAnyHS_first ho (Region.noSelect_spec hsel) hQ hij (fun l w il hu hc => cls_of hw il hu hc) (fun l a w hL => hL.1) σ.length listed a w inv
      (Region.free_spec ho hf) hr' hy hC (wpAnyHS_of_G hsel hQ σ _ _ _ (HeadInv.all inv hr') hB' (hC.imp id getD_set_true) hK)
  | (2, i) :: σ, listed, a, w, inv, hB, hC, h => by
    simp only [schedG, itemB, Bool.and_eq_true, bne_iff_ne] at hB
    obtain ⟨⟨⟨hij, hr⟩, hf⟩, hB'⟩ := hB
    obtain ⟨o, v, ho, hy, hK⟩ := h
    have hr' : i ∈ Region.ready md ops listed := by simpa using hr
    exact wpAnyHS_first ho (Region.noSelect_spec hsel) hQ hij (fun _ _ _ _ _ => trivial) (fun l a w hL => hL.1) σ.length listed a w inv
      (Region.free_spec ho hf) hr' hy hC (wpAnyHS_of_G hsel hQ σ _ _ _ (HeadInv.all inv hr') hB' (hC.imp id getD_set_true) hK)
  | (1, i) :: σ, listed, a, w, inv, hB, hC, h => by
    simp only [schedG, itemB, Bool.and_eq_true, decide_eq_true_eq] at hB
    obtain ⟨⟨_, hr⟩, hB'⟩ := hB
    refine ⟨by rw [hr]; simp, fun j hj => ?_⟩
    have hji : j = i := by rw [hr] at hj; simpa using hj
    subst hji
    exact wpOp_mono (fun a' w' h' => ⟨.inl h'.1, wpAnyHS_of_G hsel hQ σ _ _ _ (HeadInv.all inv hj) hB' (.inl h'.1) h'.2⟩) h
  | (k + 3, i) :: σ, listed, a, w, inv, hB, hC, h => by
    simp only [schedG, itemB, Bool.and_eq_true, decide_eq_true_eq, Bool.or_eq_true, beq_iff_eq] at hB
    obtain ⟨⟨hj0, hr⟩, hB'⟩ := hB
    refine ⟨by rw [hr]; simp, fun j hj => ?_⟩
    have hji : j = i := by rw [hr] at hj; simpa using hj
    subst hji
    have hc : ∀ w', ClsAt C j0 (listed.setIfInBounds j true) w' := by
      intro w'
      refine .inr ?_
      rcases hj0 with h | h
      · subst h
        obtain ⟨_, o, ho, _⟩ := mem_ready.1 hj
        have := (Array.getElem?_eq_some_iff.1 ho).1
        rw [getD_set (by rw [inv.size]; exact this)]; simp
      · exact getD_set_true h
    exact wpOp_mono (fun a' w' h' => ⟨hc w', wpAnyHS_of_G hsel hQ σ _ _ _ (HeadInv.all inv hj) hB' (hc w') h'⟩) h

/-- the first part of a schedule: its items lie below j0, and none of them is number j0 or comes behind it -/
def schedFG (md : Region.Mode) (ops : Array Oper) (j0 : Nat) (τ : List (Nat × Nat)) : List (Nat × Nat) → Array Bool → Bool
  | [], listed => decide (Region.ready md ops listed = [j0]) && schedG md ops j0 τ listed
  | (k, i) :: σ, listed => decide (i < j0) && (k == 0 || k == 1 || k == 2) && itemB md ops j0 k i listed && schedFG md ops j0 τ σ (listed.setIfInBounds i true)

theorem floatG_main {j0 : Nat} {A : List Nat} {z : Nat → Obj} {τ : List (Nat × Nat)} (hsel : Region.noSelect ops = true) (hQ : ∀ c a d v w, Q (.panic c) (Act.put a d v) w ↔ Q (.panic c) a w) (hj0 : j0 < ops.size)
    (ok : FloatOk ops j0 A) (hAw : ∀ i ∈ A, Region.waitsFor md ops j0 i = true) (hAl : ∀ i ∈ A, ∀ oi, ops[i]? = some oi → ∀ ρ w, (execOp ρ oi).run P w = .ok (.value (ptrTo w.heap.size)) (w.alloc (z i))) :
    ∀ (f : Nat) (σ : List (Nat × Nat)) (D : List Nat) (β : Nat → Nat) (a0 : Act) (w0 w : World) (ls listed : Array Bool), σ.length + (A.length - D.length) = f → FlSt md ops ops.size A W z ls listed D β w →
      schedFG md ops j0 τ σ ls = true → Below w0.heap.size w0 w → wpFG P ops W Q (fun a w => ∀ w1, Below w.heap.size w w1 → Below W.heap.size W w1 → ∀ β, Good W z β A w1 → wpG P ops (fun w' => ∃ u : UpTo W.heap.size W, w' = u.w) Q τ (puts ops β A a) w1) σ a0 w0 →
      wpAnyHS P md ops Q (fun w' => ∃ u : UpTo W.heap.size W, w' = u.w) j0 (fun listed' a' w' => Region.ready md ops listed' = [] ∧ Q .normal a' w') (f + τ.length) listed (puts ops β D a0) w := by
 intro f
 have fin : ∀ (D : List Nat) (β : Nat → Nat) (a0 : Act) (w0 w : World) (ls listed : Array Bool), A.length ≤ D.length → FlSt md ops ops.size A W z ls listed D β w → schedG md ops j0 τ ls = true → Below w0.heap.size w0 w →
   (∀ w1, Below w0.heap.size w0 w1 → Below W.heap.size W w1 → ∀ β, Good W z β A w1 → wpG P ops (fun w' => ∃ u : UpTo W.heap.size W, w' = u.w) Q τ (puts ops β A a0) w1) →
   wpAnyHS P md ops Q (fun w' => ∃ u : UpTo W.heap.size W, w' = u.w) j0 (fun listed' a' w' => Region.ready md ops listed' = [] ∧ Q .normal a' w') τ.length listed (puts ops β D a0) w := by
  intro D β a0 w0 w ls listed hlen s hB hb h
  have hp : D.Perm A := nodup_perm s.dn s.da hlen
  have e : listed = ls := by
   refine Array.ext (s.size.trans s.lsz.symm) fun i h1 h2 => ?_
   have e1 : listed.getD i false = listed[i] := by simp [h1]
   have e2 : ls.getD i false = ls[i] := by simp [h2]
   rw [← e1, ← e2, Bool.eq_iff_iff]
   refine ⟨s.sub i, fun hi => ?_⟩
   by_cases hA : i ∈ A
   ·exact (s.flo i hA).2 (hp.mem_iff.2 hA)
   ·exact s.sup i hi hA
  rw [puts_perm ok β a0 s.da hp, e]
  exact wpAnyHS_of_G hsel (fun c a d v w => (hQ c a d v w).1) τ ls _ w (e ▸ s.inv) hB (.inl (up_iff.2 s.cw)) (h w hb s.cw β ⟨fun i hi => s.good.1 i (hp.mem_iff.2 hi), fun i hi j hj => s.good.2 i (hp.mem_iff.2 hi) j (hp.mem_iff.2 hj)⟩)
 induction f with
 | zero =>
  intro σ D β a0 w0 w ls listed hf s hB hb h
  have hσ : σ = [] := List.length_eq_zero_iff.1 (by omega)
  subst hσ
  simp only [schedFG, Bool.and_eq_true] at hB
  rw [Nat.zero_add]
  exact fin D β a0 w0 w ls listed (by simp only [List.length_nil] at hf; omega) s hB.2 hb h
 | succ f ih =>
  intro σ D β a0 w0 w ls listed hf s hB hb h
  rw [show f + 1 + τ.length = (f + τ.length) + 1 by omega]
  have allocs : ∀ i, i ∈ A → i ∉ D → wpOp P ops Q i (fun a' w' => ClsAt (fun w' => ∃ u : UpTo W.heap.size W, w' = u.w) j0 (listed.setIfInBounds i true) w' ∧ wpAnyHS P md ops Q (fun w' => ∃ u : UpTo W.heap.size W, w' = u.w) j0 (fun listed' a' w' => Region.ready md ops listed' = [] ∧ Q .normal a' w') (f + τ.length) (listed.setIfInBounds i true) a' w') (puts ops β D a0) w := by
   intro i hA hD
   refine made_step ok hAl hA hD ?_
   have s' := s.made ok (Nat.le_of_lt hj0) hA hD
   refine ⟨.inl (up_iff.2 s'.cw), ih σ (i :: D) _ a0 w0 (w.alloc (z i)) ls _ ?_ s' hB (hb.alloc hb.size _) h⟩
   have hle : (i :: D).length ≤ A.length := nodup_le (List.nodup_cons.2 ⟨hD, s.dn⟩) s'.da
   simp only [List.length_cons] at hle ⊢
   omega
  match σ, hf, hB, h with
  | [], hf, hB, h =>
   simp only [schedFG, Bool.and_eq_true, decide_eq_true_eq] at hB
   have hpend : ∃ i, i ∈ A ∧ i ∉ D := by
    refine Classical.byContradiction fun hno => ?_
    have hsub : ∀ i ∈ A, i ∈ D := fun i hi => Classical.byContradiction fun h' => hno ⟨i, hi, h'⟩
    have := nodup_le ok.nodup hsub
    simp only [List.length_nil] at hf; omega
   obtain ⟨i, hA, hD⟩ := hpend
   have hri := s.pending ok hA hD
   refine ⟨fun h0 => (by rw [h0] at hri; cases hri), fun j hj => ?_⟩
   rcases s.ready hj with ⟨h1, h2⟩ | ⟨_, h2⟩
   ·exact allocs j h1 h2
   ·rw [hB.1] at h2
    have hjj : j = j0 := by simpa using h2
    subst hjj
    obtain ⟨o, ho, e, he, hbd, hon⟩ := Region.waitsFor_spec (hAw i hA)
    obtain ⟨_, o', ho', hall⟩ := mem_ready.1 hj
    obtain rfl : o = o' := Option.some.inj (ho.symm.trans ho')
    have h3 := hall e he hbd
    rw [hon] at h3
    exact absurd ((s.flo i hA).1 h3) hD
  | (0, i) :: σ, hf, hB, h =>
   simp only [schedFG, itemB, Bool.and_eq_true, decide_eq_true_eq, bne_iff_ne] at hB
   obtain ⟨⟨⟨hin, _⟩, ⟨⟨hij, hw⟩, hr⟩, hfr⟩, hB'⟩ := hB
   obtain ⟨o, v, ho, hy, hK⟩ := h
   have hr' : i ∈ Region.ready md ops ls := by simpa using hr
   obtain ⟨hiA, hrl⟩ := s.ready_of ok hin hr'
   have hsj := Region.noSelect_spec hsel i o
   refine wpAnyHS_first ho (Region.noSelect_spec hsel) (fun c a d v w => (hQ c a d v w).1) hij (fun l w il hu hc => cls_of hw il hu hc) (fun l a w hL => hL.1) _ listed _ w s.inv
    (free_of s ok hin ho hfr) hrl (puts_yields ok β ho hin hiA (fun cs b => hsj cs b ho) a0 hy D s.da) (.inl (up_iff.2 s.cw)) ?_
   rw [puts_put ok β ho hin hiA v a0 D s.da]
   exact ih σ D β _ w0 w _ _ (by simp only [List.length_cons] at hf; omega) (s.step (Nat.lt_trans hin hj0) hiA hrl (Below.refl _ _)) hB' hb hK
  | (2, i) :: σ, hf, hB, h =>
   simp only [schedFG, itemB, Bool.and_eq_true, decide_eq_true_eq, bne_iff_ne] at hB
   obtain ⟨⟨⟨hin, _⟩, ⟨hij, hr⟩, hfr⟩, hB'⟩ := hB
   obtain ⟨o, v, ho, hy, hK⟩ := h
   have hr' : i ∈ Region.ready md ops ls := by simpa using hr
   obtain ⟨hiA, hrl⟩ := s.ready_of ok hin hr'
   have hsj := Region.noSelect_spec hsel i o
   refine wpAnyHS_first ho (Region.noSelect_spec hsel) (fun c a d v w => (hQ c a d v w).1) hij (fun _ _ _ _ _ => trivial) (fun l a w hL => hL.1) _ listed _ w s.inv
    (free_of s ok hin ho hfr) hrl (puts_yields ok β ho hin hiA (fun cs b => hsj cs b ho) a0 hy D s.da) (.inl (up_iff.2 s.cw)) ?_
   rw [puts_put ok β ho hin hiA v a0 D s.da]
   exact ih σ D β _ w0 w _ _ (by simp only [List.length_cons] at hf; omega) (s.step (Nat.lt_trans hin hj0) hiA hrl (Below.refl _ _)) hB' hb hK
  | (1, i) :: σ, hf, hB, h =>
   simp only [schedFG, itemB, Bool.and_eq_true, decide_eq_true_eq, bne_iff_ne] at hB
   obtain ⟨⟨⟨hin, _⟩, hij, hr⟩, hB'⟩ := hB
   obtain ⟨hiA, hrl⟩ := s.ready_of ok hin (by rw [hr]; simp : i ∈ Region.ready md ops ls)
   refine ⟨fun h0 => (by rw [h0] at hrl; cases hrl), fun j hj => ?_⟩
   rcases s.ready hj with ⟨h1, h2⟩ | ⟨_, h2⟩
   ·exact allocs j h1 h2
   ·have hji : j = i := by rw [hr] at h2; simpa using h2
    subst hji
    obtain ⟨_, o, ho, _⟩ := mem_ready.1 hrl
    have hsj := Region.noSelect_spec hsel j o
    refine wpOp_mono (fun a' w' h' => ?_) (wpOp_at_puts ok β ho hin hiA (fun cs b => hsj cs b ho) hQ D s.da (h w hb))
    obtain ⟨a1, rfl, hb1, hK⟩ := h'
    have s' := s.step (Nat.lt_trans hin hj0) hiA hrl hb1
    exact ⟨.inl (up_iff.2 s'.cw), ih σ D β a1 w' w' _ _ (by simp only [List.length_cons] at hf; omega) s' hB' (Below.refl _ _) hK⟩
  | (k + 3, i) :: σ, hf, hB, h =>
   simp only [schedFG, Bool.and_eq_true] at hB
   obtain ⟨⟨⟨_, hk⟩, _⟩, _⟩ := hB
   simp at hk


/-- THE LAW: new variables A, and several stores. -/
theorem wp_region_FG {id : Nat} {a : Act} {w : World} {l : List Oper} (j0 : Nat) (A : List Nat) (z : Nat → Obj) (σ τ : List (Nat × Nat)) (hm : P.follows .mixedOrders = true)
    (hB : (Region.noSelect l.toArray && decide (σ.length + A.length + τ.length = l.length) && decide (j0 < l.length) && floatB l.toArray j0 A && (A.all fun i => Region.waitsFor .any l.toArray j0 i) &&
      schedFG .any l.toArray j0 τ σ ((List.range l.length).map (fun i => A.contains i)).toArray) = true)
    (hQ : ∀ c a d v w, Q (.panic c) (Act.put a d v) w ↔ Q (.panic c) a w)
    (hAl : ∀ i ∈ A, ∀ oi, l[i]? = some oi → ∀ ρ w, (execOp ρ oi).run P w = .ok (.value (ptrTo w.heap.size)) (w.alloc (z i)))
    (h : wpFG P l.toArray w Q (fun a w' => ∀ w1, Below w'.heap.size w' w1 → Below w.heap.size w w1 → ∀ β, Good w z β A w1 → wpG P l.toArray (fun w' => ∃ u : UpTo w.heap.size w, w' = u.w) Q τ (puts l.toArray β A a) w1) σ a w.drew) : (Code.region id l.toArray true).wp P Q a w := by
 simp only [Bool.and_eq_true, decide_eq_true_eq] at hB
 obtain ⟨⟨⟨⟨⟨hsel, hlen⟩, hj⟩, hfl⟩, hw⟩, hs⟩ := hB
 have ok := floatB_ok hfl
 have hls : ∀ j, ((List.range l.length).map (fun i => A.contains i)).toArray.getD j false = true ↔ j ∈ A ∧ j < l.length := by
  intro j
  by_cases hj : j < l.length
  ·simp [hj]
  ·simp [hj]
 have s0 : FlSt .any l.toArray l.toArray.size A w z ((List.range l.length).map (fun i => A.contains i)).toArray (Array.replicate l.toArray.size false) [] (fun _ => 0) w.drew := by
  refine ⟨by simp, by simp, fun j hj => (by rw [getD_replicate_false] at hj; cases hj), fun j hj hA => absurd ((hls j).1 hj).1 hA, fun j _ => ?_, fun i hi => ?_, HeadInv.none, List.nodup_nil, fun i hi => (by cases hi), (Below.refl _ _).drew, fun i hi => (by cases hi), fun i hi => (by cases hi)⟩
  ·rw [getD_replicate_false]; simp
  ·obtain ⟨_, oi, hoi, _⟩ := ok.at_ i hi
   have := (Array.getElem?_eq_some_iff.1 hoi).1
   exact (hls i).2 ⟨hi, by simpa using this⟩
 have H := floatG_main (τ := τ) hsel hQ (by simpa using hj) ok (fun i hi => List.all_eq_true.1 hw i hi) (fun i hi oi ho => hAl i hi oi (by simpa using ho)) _ σ [] (fun _ => 0) a w.drew w.drew _ _ rfl s0 hs (Below.refl _ _) h
 refine wp_region_any hm ?_
 have := wpAny_of_HS (g := 0) (fun listed a' w' hL => (⟨hL.1, hL.2⟩ : wpAny P .any l.toArray Q 0 listed a' w')) _ _ _ _ H
 have e : σ.length + (A.length - ([] : List Nat).length) + τ.length + 0 = l.toArray.size := by simp; omega
 rw [e] at this
 exact this

/-- two new variables, several stores -/
theorem wp_region_FG2 {id : Nat} {a : Act} {w : World} {l : List Oper} (j0 i j : Nat) (σ τ : List (Nat × Nat)) {o o' : Oper} {d d' : Tmp} {t t' : TypeId} {c c' : Array Value} (hm : P.follows .mixedOrders = true)
    (hB : (Region.noSelect l.toArray && decide (σ.length + [i, j].length + τ.length = l.length) && decide (j0 < l.length) && floatB l.toArray j0 [i, j] && ([i, j].all fun i => Region.waitsFor .any l.toArray j0 i) &&
      schedFG .any l.toArray j0 τ σ ((List.range l.length).map (fun k => [i, j].contains k)).toArray) = true)
    (hQ : ∀ c a d v w, Q (.panic c) (Act.put a d v) w ↔ Q (.panic c) a w) (ho : l[i]? = some o) (hop : o.op = .alloc t) (hd : o.dst = some d) (hr : AllocRuns P t c)
    (ho' : l[j]? = some o') (hop' : o'.op = .alloc t') (hd' : o'.dst = some d') (hr' : AllocRuns P t' c') (hij : (i == j) = false)
    (h : wpFG P l.toArray w Q (fun a w' => ∀ w1, Below w'.heap.size w' w1 → Below w.heap.size w w1 → ∀ b b', b ≠ b' → w.heap.size ≤ b → w1.heap[b]? = some (.cells c t) → w.heap.size ≤ b' → w1.heap[b']? = some (.cells c' t') →
      wpG P l.toArray (fun w' => ∃ u : UpTo w.heap.size w, w' = u.w) Q τ ((a.put (some d') (ptrTo b')).put (some d) (ptrTo b)) w1) σ a w.drew) :
    (Code.region id l.toArray true).wp P Q a w := by
  have hij : i ≠ j := by simpa using hij
  refine wp_region_FG j0 [i, j] (fun k => if k = i then .cells c t else .cells c' t') σ τ hm hB hQ (fun k hk oi hoi ρ w => ?_) (wpFG_mono (fun a w' h' w1 hb1 hb2 β hg => ?_) _ _ _ h)
  · rcases List.mem_cons.1 hk with rfl | hk
    · obtain rfl : o = oi := Option.some.inj (ho.symm.trans hoi)
      rw [if_pos rfl]; exact alloc_of hr o hop ρ w
    · obtain rfl : k = j := by simpa using hk
      obtain rfl : o' = oi := Option.some.inj (ho'.symm.trans hoi)
      rw [if_neg (Ne.symm hij)]; exact alloc_of hr' o' hop' ρ w
  · have h1 := hg.1 i (by simp)
    have h2 := hg.1 j (by simp)
    simp only [if_pos] at h1
    simp only [if_neg (Ne.symm hij)] at h2
    have e : puts l.toArray β [i, j] a = (a.put (some d') (ptrTo (β j))).put (some d) (ptrTo (β i)) := by
      show (a.put (dstOf l.toArray j) _).put (dstOf l.toArray i) _ = _
      simp [dstOf, ho, hd, ho', hd']
    rw [e]
    exact h' w1 hb1 hb2 _ _ (hg.2 i (by simp) j (by simp) hij) h1.1 h1.2 h2.1 h2.2

end
end Go.Proofs.Ytkaolhlmimalkaa.Far
namespace Go.Proofs.Ytkaolhlmimalkaa
open Go.RowKit

/-- a block of cells that is known whole, and may be written -/
def Blk (w : World) (b : Nat) (c : Array Value) (t : TypeId) : Prop := w.heap[b]? = some (.cells c t (0, 0))

section
variable {w w' W : World} {b b' o : Nat} {c : Array Value} {t : TypeId} {B : Nat}

theorem Blk.lt (h : Blk w b c t) : b < w.heap.size := (Array.getElem?_eq_some_iff.1 h).1
theorem Blk.cell (h : Blk w b c t) (o : Nat) : w.cell? ⟨b, o, none⟩ = c[o]? := by
  unfold World.cell?; rw [show w.heap[b]? = _ from h]; rfl
theorem Blk.free (h : Blk w b c t) (o : Nat) : w.frozen? ⟨b, o, none⟩ = false := by
  unfold World.frozen?; rw [show w.heap[b]? = _ from h]; simp
theorem cel12 {w : World} {b : Nat} {a0 a1 a2 a3 a4 a5 a6 a7 a8 a9 a10 a11 : Value} {t : TypeId} (h : Blk w b #[a0, a1, a2, a3, a4, a5, a6, a7, a8, a9, a10, a11] t) : w.cell? ⟨b, 0, none⟩ = some a0 ∧ w.cell? ⟨b, 1, none⟩ = some a1 ∧ w.cell? ⟨b, 2, none⟩ = some a2 ∧ w.cell? ⟨b, 3, none⟩ = some a3 ∧ w.cell? ⟨b, 4, none⟩ = some a4 ∧ w.cell? ⟨b, 5, none⟩ = some a5 ∧ w.cell? ⟨b, 6, none⟩ = some a6 ∧ w.cell? ⟨b, 7, none⟩ = some a7 ∧ w.cell? ⟨b, 8, none⟩ = some a8 ∧ w.cell? ⟨b, 9, none⟩ = some a9 ∧ w.cell? ⟨b, 10, none⟩ = some a10 ∧ w.cell? ⟨b, 11, none⟩ = some a11 := ⟨h.cell 0, h.cell 1, h.cell 2, h.cell 3, h.cell 4, h.cell 5, h.cell 6, h.cell 7, h.cell 8, h.cell 9, h.cell 10, h.cell 11⟩
theorem fre4 {w : World} {b : Nat} {c : Array Value} {t : TypeId} (h : Blk w b c t) : w.frozen? ⟨b, 0, none⟩ = false ∧ w.frozen? ⟨b, 1, none⟩ = false ∧ w.frozen? ⟨b, 2, none⟩ = false ∧ w.frozen? ⟨b, 3, none⟩ = false := ⟨h.free 0, h.free 1, h.free 2, h.free 3⟩
theorem fre12 {w : World} {b : Nat} {c : Array Value} {t : TypeId} (h : Blk w b c t) : w.frozen? ⟨b, 0, none⟩ = false ∧ w.frozen? ⟨b, 1, none⟩ = false ∧ w.frozen? ⟨b, 2, none⟩ = false ∧ w.frozen? ⟨b, 3, none⟩ = false ∧ w.frozen? ⟨b, 4, none⟩ = false ∧ w.frozen? ⟨b, 5, none⟩ = false ∧ w.frozen? ⟨b, 6, none⟩ = false ∧ w.frozen? ⟨b, 7, none⟩ = false ∧ w.frozen? ⟨b, 8, none⟩ = false ∧ w.frozen? ⟨b, 9, none⟩ = false ∧ w.frozen? ⟨b, 10, none⟩ = false ∧ w.frozen? ⟨b, 11, none⟩ = false := ⟨h.free 0, h.free 1, h.free 2, h.free 3, h.free 4, h.free 5, h.free 6, h.free 7, h.free 8, h.free 9, h.free 10, h.free 11⟩
theorem Blk.below (h : Blk W b c t) (hb : Below B W w') (hB : b < B) : Blk w' b c t := (hb.block b hB).trans h
theorem Blk.of (h : Blk W b c t) (hb : Below W.heap.size W w') : Blk w' b c t := h.below hb h.lt
theorem Blk.alloc (h : Blk w b c t) (o : Obj) : Blk (w.alloc o) b c t := h.of ((Below.refl _ _).alloc (Nat.le_refl _) o)
theorem Blk.drew (h : Blk w b c t) : Blk w.drew b c t := h
theorem Blk.new (w : World) (c : Array Value) (t : TypeId) : Blk (w.alloc (.cells c t)) w.heap.size c t := by
  show (w.heap.push _)[w.heap.size]? = _
  rw [Array.getElem?_push, if_pos rfl]
theorem Blk.set (h : Blk w b c t) (hne : b ≠ b') (o : Nat) (s : Option Nat) (v : Value) : Blk (w.setCell ⟨b', o, s⟩ v) b c t := by
  show (w.setCell ⟨b', o, s⟩ v).heap[b]? = _
  rw [Below.heap_setCell _ _ _ _ (by simpa using hne)]; exact h
theorem Blk.put (h : Blk w b c t) (o : Nat) (v : Value) : Blk (w.setCell ⟨b, o, none⟩ v) b (c.setIfInBounds o v) t := by
  show (w.heap.modify b _)[b]? = _
  rw [Array.getElem?_modify, if_pos rfl, show w.heap[b]? = _ from h]; rfl
theorem size_set (w : World) (a : Addr) (v : Value) : (w.setCell a v).heap.size = w.heap.size := by simp [World.setCell]

theorem Blk.newAt (w : World) (n : Nat) (hn : n = w.heap.size) (c : Array Value) (t : TypeId) : Blk (w.alloc (.cells c t)) n c t := hn ▸ Blk.new w c t
theorem Blk.new1 (w : World) (o1 : Obj) (c : Array Value) (t : TypeId) : Blk ((w.alloc o1).alloc (.cells c t)) (w.heap.size + 1) c t := Blk.newAt _ _ (by simp) c t
theorem Blk.new2 (w : World) (o1 o2 : Obj) (c : Array Value) (t : TypeId) : Blk (((w.alloc o1).alloc o2).alloc (.cells c t)) (w.heap.size + 1 + 1) c t := Blk.newAt _ _ (by simp) c t
theorem Blk.new3 (w : World) (o1 o2 o3 : Obj) (c : Array Value) (t : TypeId) : Blk ((((w.alloc o1).alloc o2).alloc o3).alloc (.cells c t)) (w.heap.size + 1 + 1 + 1) c t := Blk.newAt _ _ (by simp) c t
theorem below_set4 (h : Below B W w) (hB : B ≤ b) (x y z u : Value) : Below B W ((((w.setCell ⟨b, 0, none⟩ x).setCell ⟨b, 1, none⟩ y).setCell ⟨b, 2, none⟩ z).setCell ⟨b, 3, none⟩ u) :=
  (((h.setCell hB x).setCell hB y).setCell hB z).setCell hB u

/-- the walk goes on under a name of the world -/
theorem name_world {P : Program} {c : Code} {Q : Exit → Act → World → Prop} {a : Act} {w : World} (h : ∀ W, W = w → c.wp P Q a W) : c.wp P Q a w := h w rfl

theorem calls_w {P : Program} {f : FuncId} {args : Array Value} {w : World} {R : Ending → World → Prop} (h : ∀ W, W = w → Calls P f args W R) : Calls P f args w R := h w rfl

theorem post_world {P : Program} {fn : Func} {R : Ending → World → Prop} {e : Exit} {a : Act} {w : World} (h : ∀ W, W = w → bodyPost P fn R e a W) : bodyPost P fn R e a w := h w rfl

theorem list_world {P : Program} {ops : Array Oper} {l : List Oper} {Q : Exit → Act → World → Prop} {a : Act} {w : World} (h : ∀ W, W = w → wpList P ops Q l a W) : wpList P ops Q l a w := h w rfl
end

/-- the Go value of a number: its four words -/
abbrev wC (x : Int) : Array Value := #[.int .u64 (wd0 x), .int .u64 (wd1 x), .int .u64 (wd2 x), .int .u64 (wd3 x)]
abbrev wI (x : Int) : Value := .agg (wC x)
/-- a variable that holds a number -/
abbrev Var (w : World) (b : Nat) (x : Int) : Prop := Blk w b (wC x) 34
theorem Var.c {w : World} {b : Nat} {x : Int} (h : Var w b x) : w.cell? ⟨b, 0, none⟩ = some (.int .u64 (wd0 x)) ∧ w.cell? ⟨b, 1, none⟩ = some (.int .u64 (wd1 x)) ∧ w.cell? ⟨b, 2, none⟩ = some (.int .u64 (wd2 x)) ∧ w.cell? ⟨b, 3, none⟩ = some (.int .u64 (wd3 x)) :=
  ⟨h.cell 0, h.cell 1, h.cell 2, h.cell 3⟩
theorem Var.f {w : World} {b : Nat} {x : Int} (h : Var w b x) : w.frozen? ⟨b, 0, none⟩ = false ∧ w.frozen? ⟨b, 1, none⟩ = false ∧ w.frozen? ⟨b, 2, none⟩ = false ∧ w.frozen? ⟨b, 3, none⟩ = false :=
  ⟨h.free 0, h.free 1, h.free 2, h.free 3⟩
theorem Var.put4 {w : World} {b : Nat} {x : Int} (h : Var w b x) (y : Int) :
    Var ((((w.setCell ⟨b, 0, none⟩ (.int .u64 (wd0 y))).setCell ⟨b, 1, none⟩ (.int .u64 (wd1 y))).setCell ⟨b, 2, none⟩ (.int .u64 (wd2 y))).setCell ⟨b, 3, none⟩ (.int .u64 (wd3 y))) b y :=
  (((Blk.put h 0 _).put 1 _).put 2 _).put 3 _
theorem Blk.set4 {w : World} {b b' : Nat} {c : Array Value} {t : TypeId} (h : Blk w b c t) (hne : b ≠ b') (x y z u : Value) :
    Blk ((((w.setCell ⟨b', 0, none⟩ x).setCell ⟨b', 1, none⟩ y).setCell ⟨b', 2, none⟩ z).setCell ⟨b', 3, none⟩ u) b c t :=
  (((h.set hne 0 none x).set hne 1 none y).set hne 2 none z).set hne 3 none u
end Go.Proofs.Ytkaolhlmimalkaa
namespace Go.Proofs.Ytkaolhlmimalkaa

/-- the number of a list of digits -/
def dval : List Int → Int
  | [] => 0
  | d :: t => d + 32768 * dval t
/-- digits -/
def DigOk (ds : List Int) : Prop := ∀ d ∈ ds, 0 ≤ d ∧ d < 32768
/-- no noughts at the end -/
def Norm (ds : List Int) : Prop := ds = [] ∨ ds.getD (ds.length - 1) 0 ≠ 0
/-- 32768^n -/
def P15 (n : Nat) : Int := 32768 ^ n
theorem P15_0 : P15 0 = 1 := rfl
theorem P15_succ (n : Nat) : P15 (n + 1) = 32768 * P15 n := by unfold P15; rw [Int.pow_succ, Int.mul_comm]
theorem P15_pos (n : Nat) : 0 < P15 n := Int.pow_pos (by decide)
theorem P15_add (m n : Nat) : P15 (m + n) = P15 m * P15 n := by unfold P15; rw [Int.pow_add]
theorem P15_le {m n : Nat} (h : m ≤ n) : P15 m ≤ P15 n := by
  obtain ⟨k, rfl⟩ : ∃ k, n = m + k := ⟨n - m, by omega⟩
  rw [P15_add]
  have h1 := P15_pos m; have h2 := P15_pos k
  have : P15 m * 1 ≤ P15 m * P15 k := Int.mul_le_mul_of_nonneg_left (by omega) (by omega)
  omega

theorem getD_in' {ds : List Int} {i : Nat} (h : i < ds.length) : ds.getD i 0 = ds[i] := by simp [h]
theorem getD_out {ds : List Int} {i : Nat} (h : ds.length ≤ i) : ds.getD i 0 = 0 := by simp [List.getElem?_eq_none h]

theorem DigOk.tail {d : Int} {t : List Int} (h : DigOk (d :: t)) : DigOk t := fun x hx => h x (List.mem_cons_of_mem _ hx)
theorem DigOk.take {ds : List Int} (h : DigOk ds) (n : Nat) : DigOk (ds.take n) := fun x hx => h x (List.mem_of_mem_take hx)
theorem DigOk.drop {ds : List Int} (h : DigOk ds) (n : Nat) : DigOk (ds.drop n) := fun x hx => h x (List.mem_of_mem_drop hx)
theorem DigOk.append {a b : List Int} (ha : DigOk a) (hb : DigOk b) : DigOk (a ++ b) := fun x hx => (List.mem_append.1 hx).elim (ha x) (hb x)
theorem DigOk.one {d : Int} (h : 0 ≤ d ∧ d < 32768) : DigOk [d] := fun x hx => by rw [List.mem_singleton.1 hx]; exact h
theorem DigOk.nil : DigOk [] := fun x hx => by cases hx
theorem DigOk.get {ds : List Int} (h : DigOk ds) (i : Nat) : 0 ≤ ds.getD i 0 ∧ ds.getD i 0 < 32768 := by
  by_cases hi : i < ds.length
  · rw [getD_in' hi]; exact h _ (List.getElem_mem hi)
  · rw [getD_out (by omega)]; omega

theorem dval_append (a b : List Int) : dval (a ++ b) = dval a + P15 a.length * dval b := by
  induction a with
  | nil => simp [dval, P15_0]
  | cons d t ih => rw [List.cons_append, dval, dval, ih, List.length_cons, P15_succ, Int.mul_add, Int.mul_assoc]; omega
theorem dval_bd {ds : List Int} (h : DigOk ds) : 0 ≤ dval ds ∧ dval ds < P15 ds.length := by
  induction ds with
  | nil => simp [dval, P15_0]
  | cons d t ih =>
    have h1 := ih h.tail
    have h2 := h d (List.mem_cons_self ..)
    rw [dval, List.length_cons, P15_succ]; omega
theorem dval_split (ds : List Int) {i : Nat} (h : i < ds.length) : dval ds = dval (ds.take i) + P15 i * (ds.getD i 0 + 32768 * dval (ds.drop (i + 1))) := by
  have e : ds = ds.take i ++ (ds.getD i 0 :: ds.drop (i + 1)) := by
    rw [getD_in' h, ← List.drop_eq_getElem_cons h, List.take_append_drop]
  conv => lhs; rw [e]
  rw [dval_append, List.length_take, Nat.min_eq_left (by omega)]; rfl
theorem norm_lo {ds : List Int} (h : DigOk ds) (hn : Norm ds) (hne : ds ≠ []) : P15 (ds.length - 1) ≤ dval ds := by
  have hl : 0 < ds.length := List.length_pos_iff.2 hne
  rcases hn with hn | hn
  · exact absurd hn hne
  · have e := dval_split ds (i := ds.length - 1) (by omega)
    have h1 := h.get (ds.length - 1)
    have h2 := (dval_bd (h.take (ds.length - 1))).1
    have h3 : ds.drop (ds.length - 1 + 1) = [] := List.drop_eq_nil_of_le (by omega)
    rw [h3, dval, Int.mul_zero, Int.add_zero] at e
    have h4 := P15_pos (ds.length - 1)
    have h5 : P15 (ds.length - 1) * 1 ≤ P15 (ds.length - 1) * ds.getD (ds.length - 1) 0 := Int.mul_le_mul_of_nonneg_left (by omega) (by omega)
    omega
/-- a number that is not too great has not too many digits -/
theorem norm_len {ds : List Int} (h : DigOk ds) (hn : Norm ds) {k : Nat} (hk : dval ds < P15 k) : ds.length ≤ k := by
  rcases Nat.lt_or_ge k ds.length with h' | h'
  · have h1 := norm_lo h hn (by intro e; rw [e] at h'; cases h')
    have h2 := P15_le (show k ≤ ds.length - 1 by omega)
    omega
  · exact h'
/-- what Cmp tells -/
def cmpI (x y : Int) : Int := if x < y then -1 else if x = y then 0 else 1
theorem cmpI_lt {x y : Int} (h : x < y) : cmpI x y = -1 := by unfold cmpI; rw [if_pos h]
theorem cmpI_eq (x : Int) : cmpI x x = 0 := by unfold cmpI; rw [if_neg (by omega), if_pos rfl]
theorem cmpI_gt {x y : Int} (h : y < x) : cmpI x y = 1 := by unfold cmpI; rw [if_neg (by omega), if_neg (by omega)]

end Go.Proofs.Ytkaolhlmimalkaa
namespace Go.Proofs.Ytkaolhlmimalkaa
open Go.RowKit


theorem add64 (x y c : Int) (hx : Wd x) (hy : Wd y) (hc0 : 0 ≤ c) (hc : c ≤ 1) (w : World) : (callFunc 78 #[.int .u64 x, .int .u64 y, .int .u64 c]).run Try.prog w =
    .ok (.value (.tuple #[.int .u64 ((x + y + c) % 18446744073709551616), .int .u64 ((x + y + c) / 18446744073709551616)])) w := by
  obtain ⟨hx, hx'⟩ := hx
  obtain ⟨hy, hy'⟩ := hy
  obtain ⟨x, rfl⟩ := Int.eq_ofNat_of_zero_le hx
  obtain ⟨y, rfl⟩ := Int.eq_ofNat_of_zero_le hy
  obtain ⟨c, rfl⟩ := Int.eq_ofNat_of_zero_le hc0
  rw [run_callFunc_extern Try.func78 (by kernel_rfl) (by kernel_rfl) (by kernel_rfl) (e := add64Entry) (by kernel_rfl), run_add64 x y c (by omega) (by omega) (by omega) (by omega)]
  simp only [Result.andThen]


set_option maxRecDepth 100000 in
set_option maxHeartbeats 1000000 in
theorem plus_raw (a0 a1 a2 a3 b0 b1 b2 b3 c : Int) (w : World) (ha0 : Wd a0) (ha1 : Wd a1) (ha2 : Wd a2) (ha3 : Wd a3) (hb0 : Wd b0) (hb1 : Wd b1) (hb2 : Wd b2) (hb3 : Wd b3) (hc0 : 0 ≤ c) (hc1 : c ≤ 1) :
    Calls Try.prog 92 #[.agg #[.int .u64 a0, .int .u64 a1, .int .u64 a2, .int .u64 a3], .agg #[.int .u64 b0, .int .u64 b1, .int .u64 b2, .int .u64 b3], .int .u64 c] w fun e w' =>
      e = .returned (.agg #[.int .u64 ((a0 + b0 + c) % 18446744073709551616), .int .u64 ((a1 + b1 + (a0 + b0 + c) / 18446744073709551616) % 18446744073709551616),
        .int .u64 ((a2 + b2 + (a1 + b1 + (a0 + b0 + c) / 18446744073709551616) / 18446744073709551616) % 18446744073709551616),
        .int .u64 ((a3 + b3 + (a2 + b2 + (a1 + b1 + (a0 + b0 + c) / 18446744073709551616) / 18446744073709551616) / 18446744073709551616) % 18446744073709551616)]) ∧ Below w.heap.size w w' := by
  obtain ⟨g0, g0'⟩ := ha0
  obtain ⟨g1, g1'⟩ := ha1
  obtain ⟨g2, g2'⟩ := ha2
  obtain ⟨g3, g3'⟩ := ha3
  obtain ⟨h0, h0'⟩ := hb0
  obtain ⟨h1, h1'⟩ := hb1
  obtain ⟨h2, h2'⟩ := hb2
  obtain ⟨h3, h3'⟩ := hb3
  have k0 := fun w => add64 a0 b0 c ⟨g0, g0'⟩ ⟨h0, h0'⟩ hc0 hc1 w
  have k1 := fun w => add64 a1 b1 ((a0 + b0 + c) / 18446744073709551616) ⟨g1, g1'⟩ ⟨h1, h1'⟩ (by omega) (by omega) w
  have k2 := fun w => add64 a2 b2 ((a1 + b1 + (a0 + b0 + c) / 18446744073709551616) / 18446744073709551616) ⟨g2, g2'⟩ ⟨h2, h2'⟩ (by omega) (by omega) w
  have k3 := fun w => add64 a3 b3 ((a2 + b2 + (a1 + b1 + (a0 + b0 + c) / 18446744073709551616) / 18446744073709551616) / 18446744073709551616) ⟨g3, g3'⟩ ⟨h3, h3'⟩ (by omega) (by omega) w
  clear g0 g0' g1 g1' g2 g2' g3 g3' h0 h0' h1 h1' h2 h2' h3 h3' hc0 hc1
  go_enter Try.func92, Try.ntmps92
  go_wp2
  refine wp_loop_rounds 5 ?_
  rw [rounds_succ]
  go_wp2
  go_region
  go_wp2
  rw [rounds_succ]
  go_wp2
  go_region
  go_wp2
  rw [rounds_succ]
  go_wp2
  go_region
  go_wp2
  rw [rounds_succ]
  go_wp2
  go_region
  go_wp2
  rw [rounds_succ]
  go_wp2
  simp [bodyPost, results, Try.results92, go_sem]
  exact ((((((((Below.refl _ _).alloc (Nat.le_refl _) _).alloc (by simp) _).alloc (by simp; omega) _).alloc (by simp; omega) _).drew).drew).drew).drew

/-- plus: the sum of the bits of two, with one more, or not -/
theorem plus_any (x y c : Int) (w : World) (hc0 : 0 ≤ c) (hc1 : c ≤ 1) :
    Calls Try.prog 92 #[wI x, wI y, .int .u64 c] w fun e w' => e = .returned (wI (x + y + c)) ∧ Below w.heap.size w w' := by
  refine (plus_raw _ _ _ _ _ _ _ _ c w (wd0_Wd x) (wd1_Wd x) (wd2_Wd x) (wd3_Wd x) (wd0_Wd y) (wd1_Wd y) (wd2_Wd y) (wd3_Wd y) hc0 hc1).mono fun e w' ⟨he, hw⟩ => ⟨?_, hw⟩
  rw [he, ← plus_wd0, ← plus_wd1, ← plus_wd2, ← plus_wd3]

theorem negative_raw (a b c d : Int) (w : World) (hd : Wd d) :
    Calls Try.prog 55 #[.agg #[.int .u64 a, .int .u64 b, .int .u64 c, .int .u64 d]] w fun e w' =>
      e = .returned (.bool (d / 9223372036854775808 != 0)) ∧ Below w.heap.size w w' := by
  obtain ⟨h1, h2⟩ := hd
  go_enter Try.func55, Try.ntmps55
  go_wp2
  go_ret
  exact ⟨rfl, (Below.refl _ _).alloc (Nat.le_refl _) _⟩
end Go.Proofs.Ytkaolhlmimalkaa

namespace Go.Proofs.Ytkaolhlmimalkaa
open Go.RowKit

theorem xor_max_nat (n : Nat) (h : n < 18446744073709551616) : 18446744073709551615 ^^^ n = 18446744073709551615 - n := by
  have e : (BitVec.allOnes 64 ^^^ BitVec.ofNat 64 n).toNat = (~~~ (BitVec.ofNat 64 n)).toNat := by
    rw [BitVec.allOnes_xor]
  rw [BitVec.toNat_xor, BitVec.toNat_not, BitVec.toNat_allOnes, BitVec.toNat_ofNat, Nat.mod_eq_of_lt (by simpa using h)] at e
  simpa using e
theorem xor_max (a : Int) (h : Wd a) : bits .xor .u64 IntKind.u64.max a = 18446744073709551615 - a := by
  obtain ⟨h0, h1⟩ := h
  have e : IntKind.u64.max = 18446744073709551615 := by decide
  rw [e, u64_xor _ _ (by decide) (by decide) h0 h1]
  have := xor_max_nat a.toNat (by omega)
  have e2 : Int.toNat 18446744073709551615 = 18446744073709551615 := by decide
  rw [e2, this]; omega

theorem allocI : AllocRuns Try.prog 34 (wC 0) := fun w => by kernel_rfl

theorem negative_any (x : Int) (w : World) : Calls Try.prog 55 #[wI x] w fun e w' => e = .returned (.bool (ng x)) ∧ Below w.heap.size w w' :=
  negative_raw _ _ _ _ w (wd3_Wd x)
theorem negative_is (x : Int) (b : Bool) (h : ng x = b) (w : World) : Calls Try.prog 55 #[wI x] w fun e w' => e = .returned (.bool b) ∧ Below w.heap.size w w' := h ▸ negative_any x w

theorem kept_any (x : Int) (b : Bool) (w : World) : Calls Try.prog 94 #[wI x, .bool b] w fun e w' => e = .returned (.tuple #[wI (bif b then x else 0), .bool b]) ∧ Below w.heap.size w w' := by
  cases b
  · go_enter Try.func94, Try.ntmps94
    go_wp2
    simp [bodyPost, results, Try.results94, go_sem, wd0_0, wd1_0, wd2_0, wd3_0]
    exact ((Below.refl _ _).alloc (Nat.le_refl _) _).alloc (by simp) _
  · go_enter Try.func94, Try.ntmps94
    go_wp2
    simp [bodyPost, results, Try.results94, go_sem]
    exact ((Below.refl _ _).alloc (Nat.le_refl _) _).alloc (by simp) _

set_option maxRecDepth 100000 in
theorem turned_raw (a0 a1 a2 a3 : Int) (w : World) (h0 : Wd a0) (h1 : Wd a1) (h2 : Wd a2) (h3 : Wd a3) :
    Calls Try.prog 93 #[.agg #[.int .u64 a0, .int .u64 a1, .int .u64 a2, .int .u64 a3]] w fun e w' =>
      e = .returned (.agg #[.int .u64 (18446744073709551615 - a0), .int .u64 (18446744073709551615 - a1), .int .u64 (18446744073709551615 - a2), .int .u64 (18446744073709551615 - a3)]) ∧ Below w.heap.size w w' := by
  have x0 := xor_max a0 h0; have x1 := xor_max a1 h1; have x2 := xor_max a2 h2; have x3 := xor_max a3 h3; clear h0 h1 h2 h3
  go_enter Try.func93, Try.ntmps93
  go_wp2
  refine wp_loop_rounds 5 ?_
  iterate 5
    rw [rounds_succ]
    go_wp2
  simp [bodyPost, results, Try.results93, go_sem]
  exact ((Below.refl _ _).alloc (Nat.le_refl _) _).alloc (by simp) _

theorem turned_any (x : Int) (w : World) :
    Calls Try.prog 93 #[wI x] w fun e w' => e = .returned (wI (-1 - x)) ∧ Below w.heap.size w w' := by
  refine (turned_raw _ _ _ _ w (wd0_Wd x) (wd1_Wd x) (wd2_Wd x) (wd3_Wd x)).mono fun e w' ⟨he, hw⟩ => ⟨?_, hw⟩
  rw [he, ← not_wd0, ← not_wd1, ← not_wd2, ← not_wd3]


/-- what Add says: does the sum fit? -/
def addB (x y : Int) : Bool := (ng x != ng y) || (ng (x + y) == ng x)

set_option maxRecDepth 100000 in
set_option maxHeartbeats 1000000 in
theorem Add_go (x y : Int) (w : World) (bx by' bs : Bool) (hx : ng x = bx) (hy : ng y = by') (hs : ng (x + y) = bs) :
    Calls Try.prog 100 #[wI x, wI y] w fun e w' => e = .returned (.tuple #[wI (bif addB x y then x + y else 0), .bool (addB x y)]) ∧ Below w.heap.size w w' := by
 have hfin : addB x y = ((bx != by') || (bs == bx)) := by simp [addB, hx, hy, hs]
 rw [hfin]
 clear hfin
 go_enter Try.func100, Try.ntmps100
 go_wp2_with fail
 refine calls_w ?_
 intro W0 hW0
 have v0 : Var W0 w.heap.size x := by rw [hW0]; exact ((Blk.new _ _ _).alloc _).alloc _
 have v1 : Var W0 (w.heap.size + 1) y := by rw [hW0]; exact ((Blk.new1 _ _ _ _).alloc _)
 have v2 : Var W0 (w.heap.size + 1 + 1) 0 := by rw [hW0]; exact Blk.new2 _ _ _ _ _
 have hb0 : Below w.heap.size w W0 := by rw [hW0]; exact (((Below.refl _ _).alloc (Nat.le_refl _) _).alloc (by simp) _).alloc (by simp; omega) _
 clear hW0
 refine (plus_any x y 0 _ (by decide) (by decide)).mono ?_
 rintro e w1 ⟨rfl, hb1⟩
 rw [Int.add_zero]
 replace v0 := v0.of hb1; replace v1 := v1.of hb1; replace v2 := v2.of hb1
 replace hb0 := hb0.trans (hb1.mono hb0.size)
 clear hb1
 go_wp2_with fail
 refine name_world ?_
 intro W hW
 have v3 : Var W w1.heap.size (x + y) := by rw [hW]; exact Blk.new _ _ _
 replace v0 : Var W w.heap.size x := by rw [hW]; exact v0.alloc _
 replace v1 : Var W (w.heap.size + 1) y := by rw [hW]; exact v1.alloc _
 replace v2 : Var W (w.heap.size + 1 + 1) 0 := by rw [hW]; exact v2.alloc _
 replace hb0 : Below w.heap.size w W := by rw [hW]; exact hb0.alloc hb0.size _
 clear hW; have l0 := v0.lt; have l1 := v1.lt; have l3 := v3.lt; have c0 := v0.c; have c1 := v1.c; have c3 := v3.c; have V2 := Lib.hid v2; clear v0 v1 v2 v3
 cases bx <;> cases by' <;> cases bs
 all_goals
  refine wp_region_up W.heap.size 16 [(true, 0), (true, 1), (true, 3), (false, 2), (false, 4), (true, 5), (true, 6), (true, 7), (true, 9), (false, 8), (false, 10), (true, 11), (true, 12), (false, 13), (true, 14), (true, 15)] (by kernel_rfl) (by kernel_rfl) (fun _ _ d _ _ h => by cases d <;> exact h) ?_
  have hb : Below W.heap.size W W.drew := (Below.refl _ _).drew
  iterate 3
   refine wpS_takeL rfl rfl ?_
   go_big_quiet_step (rfl)
   refine wpQuiet_nil ?_
  refine wpS_doL rfl ?_
  intro K hK
  go_wp2_with ((first | (go_at_call 55; refine (negative_any _ _).mono ?_; rintro e w2 ⟨rfl, hn⟩) | (go_at_call 94; refine (kept_any _ _ _).mono ?_; rintro e w2 ⟨rfl, hn⟩)))
  replace hb := hb.trans (hn.mono hb.size)
  refine hK.out _ _ (up_iff.2 hb) ?_
  clear hK K; clear hn
  refine wpS_doL rfl ?_
  intro K hK
  go_wp2_with ((first | (go_at_call 55; refine (negative_any _ _).mono ?_; rintro e w2 ⟨rfl, hn⟩) | (go_at_call 94; refine (kept_any _ _ _).mono ?_; rintro e w2 ⟨rfl, hn⟩)))
  replace hb := hb.trans (hn.mono hb.size)
  refine hK.out _ _ (up_iff.2 hb) ?_
  clear hK K; clear hn
  iterate 4
   refine wpS_takeL rfl rfl ?_
   go_big_quiet_step (rfl)
   refine wpQuiet_nil ?_
  refine wpS_doL rfl ?_
  intro K hK
  go_wp2_with ((first | (go_at_call 55; refine (negative_any _ _).mono ?_; rintro e w2 ⟨rfl, hn⟩) | (go_at_call 94; refine (kept_any _ _ _).mono ?_; rintro e w2 ⟨rfl, hn⟩)))
  try replace hb := hb.trans (hn.mono hb.size)
  refine hK.out _ _ (up_iff.2 hb) ?_
  clear hK K
  try clear hn
  refine wpS_doL rfl ?_
  intro K hK
  go_wp2_with ((first | (go_at_call 55; refine (negative_any _ _).mono ?_; rintro e w2 ⟨rfl, hn⟩) | (go_at_call 94; refine (kept_any _ _ _).mono ?_; rintro e w2 ⟨rfl, hn⟩)))
  try replace hb := hb.trans (hn.mono hb.size)
  refine hK.out _ _ (up_iff.2 hb) ?_
  clear hK K
  try clear hn
  iterate 2
   refine wpS_takeL rfl rfl ?_
   go_big_quiet_step (rfl)
   refine wpQuiet_nil ?_
  refine wpS_doL rfl ?_
  intro K hK
  go_wp2_with ((first | (go_at_call 55; refine (negative_any _ _).mono ?_; rintro e w2 ⟨rfl, hn⟩) | (go_at_call 94; refine (kept_any _ _ _).mono ?_; rintro e w2 ⟨rfl, hn⟩)))
  replace hb := hb.trans (hn.mono hb.size)
  refine hK.out _ _ (up_iff.2 hb) ?_
  clear hK K; clear hn
  iterate 2
   refine wpS_takeL rfl rfl ?_
   go_big_quiet_step (rfl)
   refine wpQuiet_nil ?_
  refine wpS_nil ?_
  simp only [List.drop_succ_cons, List.drop_zero]
  have v2 : Var _ (w.heap.size + 1 + 1) 0 := V2.out.of hb; have c2 := v2.c; have f2 := v2.f; clear V2 v2
  go_wp2
  simp [bodyPost, results, Try.results100, go_sem, c2, wd0_0, wd1_0, wd2_0, wd3_0]
  refine below_set4 (hb0.trans (hb.mono hb0.size)) ?_ _ _ _ _
  omega
end Go.Proofs.Ytkaolhlmimalkaa
namespace Go.Proofs.Ytkaolhlmimalkaa
open Go.RowKit

@[go_sem] theorem run_eqI (a0 a1 a2 a3 b0 b1 b2 b3 : Int) (w : World) :
    (Op.equalIn 10000 34 (.agg #[.int .u64 a0, .int .u64 a1, .int .u64 a2, .int .u64 a3]) (.agg #[.int .u64 b0, .int .u64 b1, .int .u64 b2, .int .u64 b3])).run Try.prog w = .ok (eq4 a0 a1 a2 a3 b0 b1 b2 b3) w := by
  have hu : Try.prog.underlying 34 = some (.array 4 32) := by kernel_rfl
  have hs : ∀ w, (sizeOf 32).run Try.prog w = .ok 1 w := fun w => by kernel_rfl
  have he : ∀ (a b : Int) w, (Op.equalIn 9999 32 (.int .u64 a) (.int .u64 b)).run Try.prog w = .ok (a == b) w := fun a b w => run_equalIn_int w 9998 _ .u64 .u64 a b (by kernel_rfl)
  have hp : ∀ (c : Array Value) (i : Nat) (v : Value) w, c[i]? = some v → (part 32 c i).run Try.prog w = .ok v w := by
    intro c i v w h
    have ha : (isAgg 32).run Try.prog w = .ok false w := by kernel_rfl
    unfold part
    simp [Sem.run_bind, ha, h]
  show (Op.equalIn (9999 + 1) _ _ _).run _ _ = _
  unfold Op.equalIn
  simp only [Sem.run_bind, run_underlying hu, Result.andThen_ok, hs]
  simp [List.range', he, hp, Sem.run_bind]
  unfold eq4
  by_cases h0 : a0 = b0 <;> by_cases h1 : a1 = b1 <;> by_cases h2 : a2 = b2 <;> by_cases h3 : a3 = b3 <;> simp [h0, h1, h2, h3]


set_option maxRecDepth 100000 in
theorem Sign_go (x : Int) (w : World) (b z : Bool) (hx : ng x = b) (hz : eq4 (wd0 x) (wd1 x) (wd2 x) (wd3 x) 0 0 0 0 = z) :
    Calls Try.prog 52 #[wI x] w fun e w' => e = .returned (.int .i64 (bif b then -1 else bif z then 0 else 1)) ∧ Below w.heap.size w w' := by
  go_enter Try.func52, Try.ntmps52
  go_wp2_with fail
  refine calls_w ?_
  intro W0 hW0
  have v0 : Var W0 w.heap.size x := by rw [hW0]; exact Blk.new _ _ _
  have hb0 : Below w.heap.size w W0 := by rw [hW0]; exact ((Below.refl _ _).alloc (Nat.le_refl _) _)
  clear hW0
  refine (negative_is x _ hx _).mono ?_
  rintro e w1 ⟨rfl, hb1⟩
  replace hb0 := hb0.trans (hb1.mono hb0.size)
  have c0 := Var.c (v0.of hb1)
  clear v0 hb1 hx
  cases b <;> cases z
  all_goals
    go_wp2
    go_ret
    exact ⟨rfl, hb0⟩

theorem Sign_any (x : Int) (w : World) (h : InI x) :
    Calls Try.prog 52 #[wI x] w fun e w' => e = .returned (.int .i64 x.sign) ∧ Below w.heap.size w w' := by
  refine (Sign_go x w _ _ rfl rfl).mono fun e w' ⟨he, hw⟩ => ⟨?_, hw⟩
  rw [he, ng_in h, eq4_0]
  congr 2
  obtain ⟨h1, h2⟩ := h
  rcases Int.lt_trichotomy x 0 with hx | hx | hx
  · simp [hx, Int.sign_eq_neg_one_of_neg hx]
  · subst hx; rfl
  · have e1 : ¬ x < 0 := by omega
    have e2 : ¬ x % b256 = 0 := by unfold b255 b256 at *; omega
    simp [e1, e2, Int.sign_eq_one_of_pos hx]

set_option maxRecDepth 100000 in
set_option maxHeartbeats 1000000 in
theorem size_go (x : Int) (w : World) (b : Bool) (hx : ng x = b) :
    Calls Try.prog 76 #[wI x] w fun e w' => e = .returned (wI (bif b then -x else x)) ∧ Below w.heap.size w w' := by
  go_enter Try.func76, Try.ntmps76
  go_wp2_with fail
  refine calls_w ?_
  intro W0 hW0
  have v0 : Var W0 w.heap.size x := by rw [hW0]; exact (Blk.new _ _ _).alloc _
  have v1 : Var W0 (w.heap.size + 1) 0 := by rw [hW0]; exact Blk.new1 _ _ _ _
  have hb0 : Below w.heap.size w W0 := by rw [hW0]; exact ((Below.refl _ _).alloc (Nat.le_refl _) _).alloc (by simp) _
  clear hW0
  cases b
  · refine (negative_is x _ hx _).mono ?_
    rintro e w1 ⟨rfl, hb1⟩
    replace hb0 := hb0.trans (hb1.mono hb0.size)
    have c0 := Var.c (v0.of hb1)
    have c1 := Var.c (v1.of hb1)
    have f1 := Var.f (v1.of hb1)
    clear v0 v1 hb1 hx
    go_wp2
    simp [bodyPost, results, Try.results76, go_sem, c1]
    refine below_set4 hb0 ?_ _ _ _ _
    omega
  · refine (negative_is x _ hx _).mono ?_
    rintro e w1 ⟨rfl, hb1⟩
    replace hb0 := hb0.trans (hb1.mono hb0.size)
    replace v1 : Var _ _ _ := v1.of hb1
    have c0 := Var.c (v0.of hb1)
    clear v0 hb1 hx; have V1 := Lib.hid v1; clear v1
    go_wp2_with fail
    refine (turned_any x _).mono ?_
    rintro e w2 ⟨rfl, hn⟩
    go_wp2_with fail
    refine (plus_any 0 (-1 - x) 1 _ (by decide) (by decide)).mono ?_
    rintro e w3 ⟨rfl, hn2⟩
    replace hn := hn.trans (hn2.mono hn.size)
    have c1 := Var.c (V1.out.of hn)
    have f1 := Var.f (V1.out.of hn)
    clear V1 hn2 c0
    have e0 : 0 + (-1 - x) + 1 = -x := by omega
    rw [e0]
    clear e0
    go_wp2
    simp [bodyPost, results, Try.results76, go_sem, c1]
    refine below_set4 (hb0.trans (hn.mono hb0.size)) ?_ _ _ _ _
    omega
theorem size_any (x : Int) (w : World) : Calls Try.prog 76 #[wI x] w fun e w' => e = .returned (wI (sz x)) ∧ Below w.heap.size w w' := size_go x w _ rfl

/-- what signed says: is there a number of this size, below 0 or not? -/
def sgB (s : Int) (b : Bool) : Bool := bif b then ng (-s) || eq4 (wd0 (-s)) (wd1 (-s)) (wd2 (-s)) (wd3 (-s)) 0 0 0 0 else !ng s
def sgV (s : Int) (b : Bool) : Int := bif b then -s else s

set_option maxRecDepth 100000 in
set_option maxHeartbeats 1000000 in
theorem signed_pos (s : Int) (w : World) (k : Bool) (hk : ng s = k) :
    Calls Try.prog 79 #[wI s, .bool false] w fun e w' => e = .returned (.tuple #[wI (bif !k then s else 0), .bool (!k)]) ∧ Below w.heap.size w w' := by
  go_enter Try.func79, Try.ntmps79
  go_wp2_with fail
  refine name_world ?_
  intro W hW
  have v0 : Var W w.heap.size s := by rw [hW]; exact (Blk.new _ _ _).alloc _
  have v1 : Var W (w.heap.size + 1) 0 := by rw [hW]; exact Blk.new1 _ _ _ _
  have hb0 : Below w.heap.size w W := by rw [hW]; exact ((Below.refl _ _).alloc (Nat.le_refl _) _).alloc (by simp) _
  clear hW; have l0 := v0.lt; have c0 := v0.c; have V1 := Lib.hid v1; clear v0 v1
  cases k
  all_goals
    refine wp_region_up W.heap.size 7 [(true, 0), (true, 1), (false, 2), (true, 3), (false, 4), (true, 5), (true, 6)] (by kernel_rfl) (by kernel_rfl) (fun _ _ d _ _ h => by cases d <;> exact h) ?_
    have hb : Below W.heap.size W W.drew := (Below.refl _ _).drew
    iterate 2
      refine wpS_takeL rfl rfl ?_
      go_big_quiet_step (rfl)
      refine wpQuiet_nil ?_
    refine wpS_doL rfl ?_
    intro K hK
    go_wp2_with ((first | (go_at_call 55; refine (negative_any _ _).mono ?_; rintro e w2 ⟨rfl, hn⟩) | (go_at_call 94; refine (kept_any _ _ _).mono ?_; rintro e w2 ⟨rfl, hn⟩)))
    replace hb := hb.trans (hn.mono hb.size)
    refine hK.out _ _ (up_iff.2 hb) ?_
    clear hK K; clear hn
    refine wpS_takeL rfl rfl ?_
    go_big_quiet_step (rfl)
    refine wpQuiet_nil ?_
    refine wpS_doL rfl ?_
    intro K hK
    go_wp2_with ((first | (go_at_call 55; refine (negative_any _ _).mono ?_; rintro e w2 ⟨rfl, hn⟩) | (go_at_call 94; refine (kept_any _ _ _).mono ?_; rintro e w2 ⟨rfl, hn⟩)))
    replace hb := hb.trans (hn.mono hb.size)
    refine hK.out _ _ (up_iff.2 hb) ?_
    clear hK K; clear hn
    iterate 2
      refine wpS_takeL rfl rfl ?_
      go_big_quiet_step (rfl)
      refine wpQuiet_nil ?_
    refine wpS_nil ?_
    simp only [List.drop_succ_cons, List.drop_zero]
    have v1 : Var _ _ _ := V1.out.of hb; have c1 := v1.c; have f1 := v1.f; clear V1 v1
    go_wp2
    simp [bodyPost, results, Try.results79, go_sem, c1, wd0_0, wd1_0, wd2_0, wd3_0]
    refine below_set4 (hb0.trans (hb.mono hb0.size)) ?_ _ _ _ _
    omega

set_option maxRecDepth 100000 in
set_option maxHeartbeats 1000000 in
theorem signed_neg (s : Int) (w : World) (k z : Bool) (hk : ng (-s) = k) (hz : eq4 (wd0 (-s)) (wd1 (-s)) (wd2 (-s)) (wd3 (-s)) 0 0 0 0 = z) :
    Calls Try.prog 79 #[wI s, .bool true] w fun e w' => e = .returned (.tuple #[wI (bif k || z then -s else 0), .bool (k || z)]) ∧ Below w.heap.size w w' := by
 go_enter Try.func79, Try.ntmps79
 go_wp2_with fail
 refine calls_w ?_
 intro W0 hW0
 have v0 : Var W0 w.heap.size s := by rw [hW0]; exact (Blk.new _ _ _).alloc _
 have v1 : Var W0 (w.heap.size + 1) 0 := by rw [hW0]; exact Blk.new1 _ _ _ _
 have hb0 : Below w.heap.size w W0 := by rw [hW0]; exact ((Below.refl _ _).alloc (Nat.le_refl _) _).alloc (by simp) _
 clear hW0 v0
 refine (turned_any s _).mono ?_
 rintro e w2 ⟨rfl, hn⟩
 go_wp2_with fail
 refine (plus_any 0 (-1 - s) 1 _ (by decide) (by decide)).mono ?_
 rintro e w3 ⟨rfl, hn2⟩
 replace hn := hn.trans (hn2.mono hn.size)
 replace v1 := v1.of hn
 replace hb0 := hb0.trans (hn.mono hb0.size)
 clear hn2 hn
 have e0 : 0 + (-1 - s) + 1 = -s := by omega
 rw [e0]
 clear e0
 go_wp2_with fail
 refine name_world ?_
 intro W hW
 have v2 : Var W w3.heap.size (-s) := by rw [hW]; exact Blk.new _ _ _
 replace v1 : Var W (w.heap.size + 1) 0 := by rw [hW]; exact v1.alloc _
 replace hb0 : Below w.heap.size w W := by rw [hW]; exact hb0.alloc hb0.size _
 clear hW; have l2 := v2.lt; have c2 := v2.c; have V1 := Lib.hid v1; clear v1 v2
 cases k <;> cases z
 all_goals
  refine wp_region_up W.heap.size 11 [(true, 0), (true, 1), (false, 2), (true, 3), (true, 4), (true, 5), (true, 6), (true, 7), (false, 8), (true, 9), (true, 10)] (by kernel_rfl) (by kernel_rfl) (fun _ _ d _ _ h => by cases d <;> exact h) ?_
  have hb : Below W.heap.size W W.drew := (Below.refl _ _).drew
  iterate 2
   refine wpS_takeL rfl rfl ?_
   go_big_quiet_step (rfl)
   refine wpQuiet_nil ?_
  refine wpS_doL rfl ?_
  intro K hK
  go_wp2_with ((first | (go_at_call 55; refine (negative_any _ _).mono ?_; rintro e w2 ⟨rfl, hn⟩) | (go_at_call 94; refine (kept_any _ _ _).mono ?_; rintro e w2 ⟨rfl, hn⟩)))
  replace hb := hb.trans (hn.mono hb.size)
  refine hK.out _ _ (up_iff.2 hb) ?_
  clear hK K; clear hn
  iterate 5
   refine wpS_takeL rfl rfl ?_
   go_big_quiet_step (rfl)
   refine wpQuiet_nil ?_
  refine wpS_doL rfl ?_
  intro K hK
  go_wp2_with ((first | (go_at_call 55; refine (negative_any _ _).mono ?_; rintro e w2 ⟨rfl, hn⟩) | (go_at_call 94; refine (kept_any _ _ _).mono ?_; rintro e w2 ⟨rfl, hn⟩)))
  replace hb := hb.trans (hn.mono hb.size)
  refine hK.out _ _ (up_iff.2 hb) ?_
  clear hK K; clear hn
  iterate 2
   refine wpS_takeL rfl rfl ?_
   go_big_quiet_step (rfl)
   refine wpQuiet_nil ?_
  refine wpS_nil ?_
  simp only [List.drop_succ_cons, List.drop_zero]
  have v1 : Var _ _ _ := V1.out.of hb; have c1 := v1.c; have f1 := v1.f; clear V1 v1
  go_wp2
  simp [bodyPost, results, Try.results79, go_sem, c1, wd0_0, wd1_0, wd2_0, wd3_0]
  refine below_set4 (hb0.trans (hb.mono hb0.size)) ?_ _ _ _ _
  omega

theorem signed_any (s : Int) (b : Bool) (w : World) :
    Calls Try.prog 79 #[wI s, .bool b] w fun e w' => e = .returned (.tuple #[wI (bif sgB s b then sgV s b else 0), .bool (sgB s b)]) ∧ Below w.heap.size w w' := by
  cases b
  · exact signed_pos s w _ rfl
  · exact signed_neg s w _ _ rfl rfl
end Go.Proofs.Ytkaolhlmimalkaa
namespace Go.Proofs.Ytkaolhlmimalkaa
open Go.RowKit


/-- what Sub says: does the difference fit? -/
def subB (x y : Int) : Bool := (ng x == ng y) || (ng (x - y) == ng x)

set_option maxRecDepth 100000 in
set_option maxHeartbeats 2000000 in
theorem Sub_go (x y : Int) (w : World) (bx by' bs : Bool) (hx : ng x = bx) (hy : ng y = by') (hs : ng (x - y) = bs) :
    Calls Try.prog 75 #[wI x, wI y] w fun e w' => e = .returned (.tuple #[wI (bif subB x y then x - y else 0), .bool (subB x y)]) ∧ Below w.heap.size w w' := by
 have hfin : subB x y = ((bx == by') || (bs == bx)) := by simp [subB, hx, hy, hs]
 rw [hfin]
 clear hfin
 go_enter Try.func75, Try.ntmps75
 go_wp2_with fail
 refine name_world ?_
 intro W hW
 have v0 : Var W w.heap.size x := by rw [hW]; exact ((Blk.new _ _ _).alloc _).alloc _
 have v1 : Var W (w.heap.size + 1) y := by rw [hW]; exact ((Blk.new1 _ _ _ _).alloc _)
 have v2 : Var W (w.heap.size + 1 + 1) 0 := by rw [hW]; exact Blk.new2 _ _ _ _ _
 have hb0 : Below w.heap.size w W := by rw [hW]; exact (((Below.refl _ _).alloc (Nat.le_refl _) _).alloc (by simp) _).alloc (by simp; omega) _
 clear hW; have l0 := v0.lt; have l1 := v1.lt; have c0 := v0.c; have c1 := v1.c; have V0 := Lib.hid v0; have V1 := Lib.hid v1; have V2 := Lib.hid v2; clear v0 v1 v2
 refine wp_region_float1 5 4 [(true, 0), (true, 1), (false, 2), (false, 3)] (by kernel_rfl) (by kernel_rfl) (fun _ _ d _ _ => by cases d <;> exact Iff.rfl) rfl rfl rfl allocI ?_
 have hb : Below W.heap.size W W.drew := (Below.refl _ _).drew
 iterate 2
  refine wpF_take rfl rfl ?_
  go_big_quiet_step (rfl)
  refine wpQuiet_nil ?_
 refine wpF_do rfl ?_
 intro w1 hg K hK
 replace hb := hb.trans (hg.mono hb.size)
 clear hg
 go_wp2_with ((first | (go_at_call 93; refine (turned_any _ _).mono ?_; rintro e w2 ⟨rfl, hn⟩) | (go_at_call 92; refine (plus_any _ _ 1 _ (by decide) (by decide)).mono ?_; rintro e w2 ⟨rfl, hn⟩)))
 refine hK.out _ _ hn ?_
 replace hb := hb.trans (hn.mono hb.size)
 clear hK K; clear hn
 refine wpF_do rfl ?_
 intro w1 hg K hK
 replace hb := hb.trans (hg.mono hb.size)
 clear hg
 go_wp2_with ((first | (go_at_call 93; refine (turned_any _ _).mono ?_; rintro e w2 ⟨rfl, hn⟩) | (go_at_call 92; refine (plus_any _ _ 1 _ (by decide) (by decide)).mono ?_; rintro e w2 ⟨rfl, hn⟩)))
 refine hK.out _ _ hn ?_
 replace hb := hb.trans (hn.mono hb.size)
 clear hK K; clear hn
 refine wpF_nil ?_
 clear hb
 intro w1 hg hb b1 lb1 nb1
 clear hg
 simp only [Act.put, ptrTo, List.setIfInBounds_toArray, List.set_cons_succ, List.set_cons_zero]
 simp only [List.drop_succ_cons, List.drop_zero]
 have e0 : x + (-1 - y) + 1 = x - y := by omega
 rw [e0]
 clear e0; have n3 : b1 < w1.heap.size := Blk.lt nb1
 have d0 : b1 ≠ w.heap.size := by omega
 have d1 : b1 ≠ w.heap.size + 1 := by omega
 have d2 : b1 ≠ w.heap.size + 1 + 1 := by have := Blk.lt V2.out; omega
 have v3 : Var w1 b1 0 := nb1; have v0 : Var w1 w.heap.size x := V0.out.of hb; have v1 : Var w1 (w.heap.size + 1) y := V1.out.of hb; have v2 : Var w1 (w.heap.size + 1 + 1) 0 := V2.out.of hb
 replace hb0 := hb0.trans (hb.mono hb0.size)
 have lb := Nat.le_trans (Nat.le_of_lt l0) lb1
 have c3 := v3.c; have f3 := v3.f; have V3 := Lib.hid v3; clear V0 V1 V2 nb1 hb c0 c1 l0 l1 v3
 go_wp2_with fail
 refine name_world ?_
 intro W' hW
 replace v3 : Var W' b1 (x - y) := by rw [hW]; exact Var.put4 V3.out _
 replace v0 : Var W' w.heap.size x := by rw [hW]; exact v0.set4 d0.symm _ _ _ _
 replace v1 : Var W' (w.heap.size + 1) y := by rw [hW]; exact v1.set4 d1.symm _ _ _ _
 replace v2 : Var W' (w.heap.size + 1 + 1) 0 := by rw [hW]; exact v2.set4 d2.symm _ _ _ _
 replace hb0 : Below w.heap.size w W' := by rw [hW]; exact below_set4 hb0 lb _ _ _ _
 clear hW c3 f3 V3 d0 d1 d2 lb1 lb n3; have l0 := v0.lt; have l1 := v1.lt; have l3 := v3.lt; have c0 := v0.c; have c1 := v1.c; have c3 := v3.c; have V2 := Lib.hid v2; clear v0 v1 v2 v3
 cases bx <;> cases by' <;> cases bs
 all_goals
  refine wp_region_up W'.heap.size 16 [(true, 0), (true, 1), (true, 3), (false, 2), (false, 4), (true, 5), (true, 6), (true, 7), (true, 9), (false, 8), (false, 10), (true, 11), (true, 12), (false, 13), (true, 14), (true, 15)] (by kernel_rfl) (by kernel_rfl) (fun _ _ d _ _ h => by cases d <;> exact h) ?_
  have hb : Below W'.heap.size W' W'.drew := (Below.refl _ _).drew
  iterate 3
   refine wpS_takeL rfl rfl ?_
   go_big_quiet_step (rfl)
   refine wpQuiet_nil ?_
  refine wpS_doL rfl ?_
  intro K hK
  go_wp2_with ((first | (go_at_call 55; refine (negative_any _ _).mono ?_; rintro e w2 ⟨rfl, hn⟩) | (go_at_call 94; refine (kept_any _ _ _).mono ?_; rintro e w2 ⟨rfl, hn⟩)))
  replace hb := hb.trans (hn.mono hb.size)
  refine hK.out _ _ (up_iff.2 hb) ?_
  clear hK K; clear hn
  refine wpS_doL rfl ?_
  intro K hK
  go_wp2_with ((first | (go_at_call 55; refine (negative_any _ _).mono ?_; rintro e w2 ⟨rfl, hn⟩) | (go_at_call 94; refine (kept_any _ _ _).mono ?_; rintro e w2 ⟨rfl, hn⟩)))
  replace hb := hb.trans (hn.mono hb.size)
  refine hK.out _ _ (up_iff.2 hb) ?_
  clear hK K; clear hn
  iterate 4
   refine wpS_takeL rfl rfl ?_
   go_big_quiet_step (rfl)
   refine wpQuiet_nil ?_
  refine wpS_doL rfl ?_
  intro K hK
  go_wp2_with ((first | (go_at_call 55; refine (negative_any _ _).mono ?_; rintro e w2 ⟨rfl, hn⟩) | (go_at_call 94; refine (kept_any _ _ _).mono ?_; rintro e w2 ⟨rfl, hn⟩)))
  try replace hb := hb.trans (hn.mono hb.size)
  refine hK.out _ _ (up_iff.2 hb) ?_
  clear hK K
  try clear hn
  refine wpS_doL rfl ?_
  intro K hK
  go_wp2_with ((first | (go_at_call 55; refine (negative_any _ _).mono ?_; rintro e w2 ⟨rfl, hn⟩) | (go_at_call 94; refine (kept_any _ _ _).mono ?_; rintro e w2 ⟨rfl, hn⟩)))
  try replace hb := hb.trans (hn.mono hb.size)
  refine hK.out _ _ (up_iff.2 hb) ?_
  clear hK K
  try clear hn
  iterate 2
   refine wpS_takeL rfl rfl ?_
   go_big_quiet_step (rfl)
   refine wpQuiet_nil ?_
  refine wpS_doL rfl ?_
  intro K hK
  go_wp2_with ((first | (go_at_call 55; refine (negative_any _ _).mono ?_; rintro e w2 ⟨rfl, hn⟩) | (go_at_call 94; refine (kept_any _ _ _).mono ?_; rintro e w2 ⟨rfl, hn⟩)))
  replace hb := hb.trans (hn.mono hb.size)
  refine hK.out _ _ (up_iff.2 hb) ?_
  clear hK K; clear hn
  iterate 2
   refine wpS_takeL rfl rfl ?_
   go_big_quiet_step (rfl)
   refine wpQuiet_nil ?_
  refine wpS_nil ?_
  simp only [List.drop_succ_cons, List.drop_zero]
  have v2 : Var _ (w.heap.size + 1 + 1) 0 := V2.out.of hb; have c2 := v2.c; have f2 := v2.f; clear V2 v2
  go_wp2
  simp [bodyPost, results, Try.results75, go_sem, c2, wd0_0, wd1_0, wd2_0, wd3_0]
  refine below_set4 (hb0.trans (hb.mono hb0.size)) ?_ _ _ _ _
  omega
end Go.Proofs.Ytkaolhlmimalkaa
namespace Go.Proofs.Ytkaolhlmimalkaa
open Go.RowKit

theorem Sub_any (x y : Int) (w : World) : Calls Try.prog 75 #[wI x, wI y] w fun e w' => e = .returned (.tuple #[wI (bif subB x y then x - y else 0), .bool (subB x y)]) ∧ Below w.heap.size w w' := Sub_go x y w _ _ _ rfl rfl rfl
theorem Add_any (x y : Int) (w : World) : Calls Try.prog 100 #[wI x, wI y] w fun e w' => e = .returned (.tuple #[wI (bif addB x y then x + y else 0), .bool (addB x y)]) ∧ Below w.heap.size w w' := Add_go x y w _ _ _ rfl rfl rfl

set_option maxRecDepth 100000 in
set_option maxHeartbeats 1000000 in
theorem Of_any (n : Int) (w : World) (h : In64 n) :
    Calls Try.prog 27 #[.int .i64 n] w fun e w' => e = .returned (wI n) ∧ Below w.heap.size w w' := by
  obtain ⟨h1, h2⟩ := h
  by_cases h0 : 0 ≤ n
  · obtain ⟨e0, e1, e2, e3⟩ := wd_of_nat h0 h2
    have e : wI n = .agg #[.int .u64 n, .int .u64 0, .int .u64 0, .int .u64 0] := by unfold wI wC; rw [e0, e1, e2, e3]
    rw [e]
    clear e e0 e1 e2 e3
    go_enter Try.func27, Try.ntmps27
    go_wp2
    simp [bodyPost, results, Try.results27, go_sem]
    exact ((Below.refl _ _).alloc (Nat.le_refl _) _).alloc (by simp) _
  · have hlt : n < 0 := by omega
    obtain ⟨e0, e1, e2, e3⟩ := wd_of_neg hlt h1
    have e : wI n = .agg #[.int .u64 (n % 18446744073709551616), .int .u64 18446744073709551615, .int .u64 18446744073709551615, .int .u64 18446744073709551615] := by unfold wI wC; rw [e0, e1, e2, e3]
    rw [e]
    clear e e0 e1 e2 e3
    go_enter Try.func27, Try.ntmps27
    go_wp2
    refine wp_loop_rounds 4 ?_
    iterate 4
      rw [rounds_succ]
      go_wp2
    simp [bodyPost, results, Try.results27, go_sem]
    exact ⟨by rw [IntKind.wrap_u64], ((Below.refl _ _).alloc (Nat.le_refl _) _).alloc (by simp) _⟩

set_option maxRecDepth 100000 in
set_option maxHeartbeats 1000000 in
theorem below_raw (a0 a1 a2 a3 b0 b1 b2 b3 : Int) (w : World) :
    Calls Try.prog 56 #[.agg #[.int .u64 a0, .int .u64 a1, .int .u64 a2, .int .u64 a3], .agg #[.int .u64 b0, .int .u64 b1, .int .u64 b2, .int .u64 b3]] w fun e w' =>
      e = .returned (.bool (lt4 a0 a1 a2 a3 b0 b1 b2 b3)) ∧ Below w.heap.size w w' := by
 have hfin : ∀ t, t = lt4 a0 a1 a2 a3 b0 b1 b2 b3 → Ending.returned (.bool t) = Ending.returned (.bool (lt4 a0 a1 a2 a3 b0 b1 b2 b3)) := fun t h => by rw [h]
 have HF := Lib.hid hfin; clear hfin
 unfold lt4 at HF
 by_cases e3 : a3 = b3
 ·subst e3
  by_cases e2 : a2 = b2
  ·subst e2
   by_cases e1 : a1 = b1
   ·subst e1
    by_cases e0 : a0 = b0
    ·subst e0
     go_enter Try.func56, Try.ntmps56
     go_wp2
     refine wp_loop_rounds 5 ?_
     rw [rounds_succ]
     go_wp2
     go_quiet (fail)
     go_wp2
     rw [rounds_succ]
     go_wp2
     go_quiet (fail)
     go_wp2
     rw [rounds_succ]
     go_wp2
     go_quiet (fail)
     go_wp2
     rw [rounds_succ]
     go_wp2
     go_quiet (fail)
     go_wp2
     rw [rounds_succ]
     go_wp2
     go_ret
     refine ⟨HF.out _ (by simp), ?_⟩
     (repeat (first | exact Below.refl _ _ | refine below_drewN ?_ _ | refine Below.drew ?_ | refine Below.alloc ?_ (by simp) _ | refine Below.alloc ?_ (by simp; omega) _))
    ·have d : (a0 != b0) = true := by simpa using e0
     clear e0
     go_enter Try.func56, Try.ntmps56
     go_wp2
     refine wp_loop_rounds 5 ?_
     rw [rounds_succ]
     go_wp2
     go_quiet (fail)
     go_wp2
     rw [rounds_succ]
     go_wp2
     go_quiet (fail)
     go_wp2
     rw [rounds_succ]
     go_wp2
     go_quiet (fail)
     go_wp2
     rw [rounds_succ]
     go_wp2
     go_quiet (fail)
     go_wp2
     go_quiet (fail)
     go_wp2
     go_ret
     refine ⟨HF.out _ (by simp [d]), ?_⟩
     (repeat (first | exact Below.refl _ _ | refine below_drewN ?_ _ | refine Below.drew ?_ | refine Below.alloc ?_ (by simp) _ | refine Below.alloc ?_ (by simp; omega) _))
   ·have d : (a1 != b1) = true := by simpa using e1
    clear e1
    go_enter Try.func56, Try.ntmps56
    go_wp2
    refine wp_loop_rounds 5 ?_
    rw [rounds_succ]
    go_wp2
    go_quiet (fail)
    go_wp2
    rw [rounds_succ]
    go_wp2
    go_quiet (fail)
    go_wp2
    rw [rounds_succ]
    go_wp2
    go_quiet (fail)
    go_wp2
    go_quiet (fail)
    go_wp2
    go_ret
    refine ⟨HF.out _ (by simp [d]), ?_⟩
    (repeat (first | exact Below.refl _ _ | refine below_drewN ?_ _ | refine Below.drew ?_ | refine Below.alloc ?_ (by simp) _ | refine Below.alloc ?_ (by simp; omega) _))
  ·have d : (a2 != b2) = true := by simpa using e2
   clear e2
   go_enter Try.func56, Try.ntmps56
   go_wp2
   refine wp_loop_rounds 5 ?_
   rw [rounds_succ]
   go_wp2
   go_quiet (fail)
   go_wp2
   rw [rounds_succ]
   go_wp2
   go_quiet (fail)
   go_wp2
   go_quiet (fail)
   go_wp2
   go_ret
   refine ⟨HF.out _ (by simp [d]), ?_⟩
   (repeat (first | exact Below.refl _ _ | refine below_drewN ?_ _ | refine Below.drew ?_ | refine Below.alloc ?_ (by simp) _ | refine Below.alloc ?_ (by simp; omega) _))
 ·have d : (a3 != b3) = true := by simpa using e3
  clear e3
  go_enter Try.func56, Try.ntmps56
  go_wp2
  refine wp_loop_rounds 5 ?_
  rw [rounds_succ]
  go_wp2
  go_quiet (fail)
  go_wp2
  go_quiet (fail)
  go_wp2
  go_ret
  refine ⟨HF.out _ (by simp [d]), ?_⟩
  (repeat (first | exact Below.refl _ _ | refine below_drewN ?_ _ | refine Below.drew ?_ | refine Below.alloc ?_ (by simp) _ | refine Below.alloc ?_ (by simp; omega) _))

theorem below_any (x y : Int) (w : World) : Calls Try.prog 56 #[wI x, wI y] w fun e w' => e = .returned (.bool (ltU x y)) ∧ Below w.heap.size w w' := by
  rw [← lt4_wd]; exact below_raw _ _ _ _ _ _ _ _ w


set_option maxRecDepth 100000 in
theorem Compare_any (x y : Int) (w : World) :
    Calls Try.prog 51 #[.int .i64 x, .int .i64 y] w fun e w' => e = .returned (.int .i64 (cmpI x y)) ∧ Below w.heap.size w w' := by
  rcases Int.lt_trichotomy x y with h | h | h
  · rw [cmpI_lt h]
    go_enter Try.func51, Try.ntmps51
    go_wp2
    go_ret
    exact ⟨rfl, Below.refl _ _⟩
  · subst h
    rw [cmpI_eq]
    go_enter Try.func51, Try.ntmps51
    go_wp2
    go_ret
    exact ⟨rfl, Below.refl _ _⟩
  · rw [cmpI_gt h]
    go_enter Try.func51, Try.ntmps51
    go_wp2
    go_ret
    exact ⟨rfl, Below.refl _ _⟩

set_option maxRecDepth 100000 in
set_option maxHeartbeats 1000000 in
theorem Cmp_go (x y : Int) (w : World) (ix : InI x) (iy : InI y) (bx by' e l : Bool) (hx : ng x = bx) (hy : ng y = by') (he : eq4 (wd0 x) (wd1 x) (wd2 x) (wd3 x) (wd0 y) (wd1 y) (wd2 y) (wd3 y) = e) (hl : ltU x y = l) :
    Calls Try.prog 23 #[wI x, wI y] w fun e' w' => e' = .returned (.int .i64 (bif bx != by' then cmpI x.sign y.sign else bif e then 0 else bif l then -1 else 1)) ∧ Below w.heap.size w w' := by
 have X := Lib.hid ix; have Y := Lib.hid iy; clear ix iy
 go_enter Try.func23, Try.ntmps23
 go_wp2_with fail
 refine name_world ?_
 intro W hW
 have v0 : Var W w.heap.size x := by rw [hW]; exact (Blk.new _ _ _).alloc _
 have v1 : Var W (w.heap.size + 1) y := by rw [hW]; exact Blk.new1 _ _ _ _
 have hb0 : Below w.heap.size w W := by rw [hW]; exact ((Below.refl _ _).alloc (Nat.le_refl _) _).alloc (by simp) _
 clear hW; have l0 := v0.lt; have l1 := v1.lt; have c0 := v0.c; have c1 := v1.c; have V0 := Lib.hid v0; have V1 := Lib.hid v1; clear v0 v1
 cases bx <;> cases by'
 case' false.true | true.false =>
  refine wp_region_up W.heap.size 3 [(true, 0), (true, 2), (false, 1)] (by kernel_rfl) (by kernel_rfl) (fun _ _ d _ _ h => by cases d <;> exact h) ?_
  have hb : Below W.heap.size W W.drew := (Below.refl _ _).drew
  iterate 2
   refine wpS_takeL rfl rfl ?_
   go_big_quiet_step (rfl)
   refine wpQuiet_nil ?_
  refine wpS_doL rfl ?_
  intro K hK
  go_wp2_with ((go_at_call 55; refine (negative_any _ _).mono ?_; rintro e w2 ⟨rfl, hn⟩))
  replace hb := hb.trans (hn.mono hb.size)
  refine hK.out _ _ (up_iff.2 hb) ?_
  clear hK K; clear hn
  refine wpS_nil ?_
  simp only [List.drop_succ_cons, List.drop_zero]
  go_wp2_with (first | (go_at_call 55; refine (negative_any _ _).mono ?_; rintro e w2 ⟨rfl, hn⟩))
  replace hb := hb.trans (hn.mono hb.size)
  clear hn; have v0 : Var _ _ _ := V0.out.of hb; have v1 : Var _ _ _ := V1.out.of hb
  replace hb0 := hb0.trans (hb.mono hb0.size)
  clear V0 V1 hb l0 l1 c0 c1
  refine name_world ?_
  intro W hW
  rw [← hW] at v0 v1 hb0
  clear hW; have l0 := v0.lt; have l1 := v1.lt; have c0 := v0.c; have c1 := v1.c; clear v0 v1; have hX := X.out; have hY := Y.out; clear X Y; have HX := Lib.hid hX; have HY := Lib.hid hY; clear hX hY
  refine wp_region_up W.heap.size 3 [(true, 0), (true, 2), (false, 1)] (by kernel_rfl) (by kernel_rfl) (fun _ _ d _ _ h => by cases d <;> exact h) ?_
  have hb : Below W.heap.size W W.drew := (Below.refl _ _).drew
  iterate 2
   refine wpS_takeL rfl rfl ?_
   go_big_quiet_step (rfl)
   refine wpQuiet_nil ?_
  refine wpS_doL rfl ?_
  intro K hK
  go_wp2_with ((go_at_call 52; refine (Sign_any x _ HX.out).mono ?_; rintro e' w2 ⟨rfl, hn⟩))
  replace hb := hb.trans (hn.mono hb.size)
  refine hK.out _ _ (up_iff.2 hb) ?_
  clear hK K; clear hn
  refine wpS_nil ?_
  simp only [List.drop_succ_cons, List.drop_zero]
  go_wp2_with (go_at_call 52; refine (Sign_any y _ HY.out).mono ?_; rintro e' w2 ⟨rfl, hn⟩)
  have hb5 := hb.trans (hn.mono hb.size)
  clear hn
  go_wp2_with (go_at_call 51; refine (Compare_any _ _ _).mono ?_; rintro e' w2 ⟨rfl, hn⟩)
  replace hb5 := hb5.trans (hn.mono hb5.size)
  go_wp2
  go_ret
  exact ⟨rfl, hb0.trans (hb5.mono hb0.size)⟩
 all_goals
  cases e <;> cases l
  all_goals
   refine wp_region_up W.heap.size 3 [(true, 0), (true, 2), (false, 1)] (by kernel_rfl) (by kernel_rfl) (fun _ _ d _ _ h => by cases d <;> exact h) ?_
   have hb : Below W.heap.size W W.drew := (Below.refl _ _).drew
   iterate 2
    refine wpS_takeL rfl rfl ?_
    go_big_quiet_step (rfl)
    refine wpQuiet_nil ?_
   refine wpS_doL rfl ?_
   intro K hK
   go_wp2_with ((go_at_call 55; refine (negative_any _ _).mono ?_; rintro e w2 ⟨rfl, hn⟩))
   replace hb := hb.trans (hn.mono hb.size)
   refine hK.out _ _ (up_iff.2 hb) ?_
   clear hK K; clear hn
   refine wpS_nil ?_
   simp only [List.drop_succ_cons, List.drop_zero]
   go_wp2_with (first | (go_at_call 55; refine (negative_any _ _).mono ?_; rintro e w2 ⟨rfl, hn⟩; replace hb := hb.trans (hn.mono hb.size); have c0' := Var.c (V0.out.of hb); have c1' := Var.c (V1.out.of hb); clear hn) | (go_at_call 56; refine (below_any _ _ _).mono ?_; rintro e' w2 ⟨rfl, hn⟩; replace hb := hb.trans (hn.mono hb.size)))
   go_ret
   exact ⟨rfl, hb0.trans (hb.mono hb0.size)⟩

theorem Cmp_any (x y : Int) (w : World) (ix : InI x) (iy : InI y) :
    Calls Try.prog 23 #[wI x, wI y] w fun e w' => e = .returned (.int .i64 (cmpI x y)) ∧ Below w.heap.size w w' := by
 refine (Cmp_go x y w ix iy _ _ _ _ rfl rfl rfl rfl).mono fun e w' ⟨he, hw⟩ => ⟨?_, hw⟩
 rw [he, ng_in ix, ng_in iy, eq4_wd]
 congr 2
 have sx := @Int.sign_eq_neg_one_of_neg x
 have sy := @Int.sign_eq_neg_one_of_neg y
 unfold ltU
 obtain ⟨h1, h2⟩ := ix
 obtain ⟨h3, h4⟩ := iy
 by_cases hx : x < 0 <;> by_cases hy : y < 0
 ·simp only [hx, hy, bne_self_eq_false, cond_false, decide_true]
  unfold cmpI b255 b256 at *
  by_cases e : x = y
  ·subst e; simp
  ·have e' : ¬ x % 115792089237316195423570985008687907853269984665640564039457584007913129639936 = y % 115792089237316195423570985008687907853269984665640564039457584007913129639936 := by omega
   simp only [e', decide_false, cond_false, e]
   by_cases g : x < y
   ·have g' : x % 115792089237316195423570985008687907853269984665640564039457584007913129639936 < y % 115792089237316195423570985008687907853269984665640564039457584007913129639936 := by omega
    simp [g, g']
   ·have g' : ¬ x % 115792089237316195423570985008687907853269984665640564039457584007913129639936 < y % 115792089237316195423570985008687907853269984665640564039457584007913129639936 := by omega
    simp [g, g']
 ·rw [sx hx]
  have : cmpI x y = -1 := cmpI_lt (by omega)
  rw [this]
  simp only [hx, hy, decide_true, decide_false]
  have : cmpI (-1) y.sign = -1 := cmpI_lt (by have := Int.sign_nonneg_iff.2 (show 0 ≤ y by omega); omega)
  simpa using this
 ·rw [sy hy]
  have : cmpI x y = 1 := cmpI_gt (by omega)
  rw [this]
  simp only [hx, hy, decide_true, decide_false]
  have : cmpI x.sign (-1) = 1 := cmpI_gt (by have := Int.sign_nonneg_iff.2 (show 0 ≤ x by omega); omega)
  simpa using this
 ·simp only [hx, hy, bne_self_eq_false, cond_false, decide_false]
  unfold cmpI b255 b256 at *
  by_cases e : x = y
  ·subst e; simp
  ·have e' : ¬ x % 115792089237316195423570985008687907853269984665640564039457584007913129639936 = y % 115792089237316195423570985008687907853269984665640564039457584007913129639936 := by omega
   simp only [e', decide_false, cond_false, e]
   by_cases g : x < y
   ·have g' : x % 115792089237316195423570985008687907853269984665640564039457584007913129639936 < y % 115792089237316195423570985008687907853269984665640564039457584007913129639936 := by omega
    simp [g, g']
   ·have g' : ¬ x % 115792089237316195423570985008687907853269984665640564039457584007913129639936 < y % 115792089237316195423570985008687907853269984665640564039457584007913129639936 := by omega
    simp [g, g']
end Go.Proofs.Ytkaolhlmimalkaa
namespace Go.Proofs.Ytkaolhlmimalkaa

theorem div_unique {x b q r : Int} (h : x = b * q + r) (h0 : 0 ≤ r) (h1 : r < b) : x / b = q ∧ x % b = r := by
  have hb : b ≠ 0 := by omega
  subst h
  constructor
  · rw [Int.add_comm, Int.add_mul_ediv_left _ _ hb, Int.ediv_eq_zero_of_lt h0 h1, Int.zero_add]
  · rw [Int.add_comm, Int.add_mul_emod_self_left]; exact Int.emod_eq_of_lt h0 h1

end Go.Proofs.Ytkaolhlmimalkaa
namespace Go.Proofs.Ytkaolhlmimalkaa
open Go.RowKit

/-- where the division stands: the quotient and the rest so far -/
structure DivAt (w : World) (a b q r : Int) (wr : World) : Prop where
  va : Var wr w.heap.size a
  vb : Var wr (w.heap.size + 1) b
  vq : Var wr (w.heap.size + 1 + 1) q
  vr : Var wr (w.heap.size + 1 + 1 + 1) r
  below : Below w.heap.size w wr
theorem DivAt.of {w : World} {a b q r : Int} {wr w' : World} (h : DivAt w a b q r wr) (hn : Below wr.heap.size wr w') : DivAt w a b q r w' :=
  ⟨h.va.of hn, h.vb.of hn, h.vq.of hn, h.vr.of hn, h.below.trans (hn.mono h.below.size)⟩
end Go.Proofs.Ytkaolhlmimalkaa
namespace Go.Proofs.Ytkaolhlmimalkaa

def fr (x y : Int) : Int := if 0 ≤ y then x % y else -((-x) % (-y))

theorem sz_bd {x : Int} (h : InI x) : 0 ≤ sz x ∧ sz x ≤ b255 := by
  rw [sz_in h]; obtain ⟨h1, h2⟩ := h; unfold b255 at *; omega

end Go.Proofs.Ytkaolhlmimalkaa

namespace Go.Proofs.Ytkaolhlmimalkaa
open Go.RowKit

/-- where Div stands -/
structure DvAt (w : World) (x y n m : Int) (b1 b2 : Nat) (wr : World) : Prop where
  v0 : Var wr w.heap.size x
  v1 : Var wr (w.heap.size + 1) y
  v2 : Var wr (w.heap.size + 1 + 1) 0
  v3 : Var wr (w.heap.size + 1 + 1 + 1) 0
  vn : Var wr b1 n
  vm : Var wr b2 m
  hne : b1 ≠ b2
  lb1 : w.heap.size + 1 + 1 + 1 < b1
  lb2 : w.heap.size + 1 + 1 + 1 < b2
  below : Below w.heap.size w wr
theorem DvAt.of {w : World} {x y n m : Int} {b1 b2 : Nat} {wr w' : World} (h : DvAt w x y n m b1 b2 wr) (hn : Below wr.heap.size wr w') : DvAt w x y n m b1 b2 w' :=
  ⟨h.v0.of hn, h.v1.of hn, h.v2.of hn, h.v3.of hn, h.vn.of hn, h.vm.of hn, h.hne, h.lb1, h.lb2, h.below.trans (hn.mono h.below.size)⟩
/-- where Div stands behind the quotient's sign -/
structure DwAt (w : World) (x y q m : Int) (b1 b2 : Nat) (wr : World) : Prop where
  v1 : Var wr (w.heap.size + 1) y
  v2 : Var wr (w.heap.size + 1 + 1) q
  v3 : Var wr (w.heap.size + 1 + 1 + 1) 0
  vm : Var wr b2 m
  lb2 : w.heap.size + 1 + 1 + 1 < b2
  below : Below w.heap.size w wr
theorem DwAt.of {w : World} {x y n m : Int} {b1 b2 : Nat} {wr w' : World} (h : DwAt w x y n m b1 b2 wr) (hn : Below wr.heap.size wr w') : DwAt w x y n m b1 b2 w' :=
  ⟨h.v1.of hn, h.v2.of hn, h.v3.of hn, h.vm.of hn, h.lb2, h.below.trans (hn.mono h.below.size)⟩
end Go.Proofs.Ytkaolhlmimalkaa
namespace Go.Proofs.Ytkaolhlmimalkaa
open Go.RowKit

/-- does a number fit? -/
def okI (x : Int) : Bool := decide (InI x)
theorem addB_ok {x y : Int} (ix : InI x) (iy : InI y) : addB x y = okI (x + y) := by
  unfold addB okI
  rw [ng_in ix, ng_in iy]
  have hs := ng_iff (x + y)
  obtain ⟨h1, h2⟩ := ix
  obtain ⟨h3, h4⟩ := iy
  rw [Bool.eq_iff_iff, decide_eq_true_iff]
  unfold InI
  cases hn : ng (x + y)
  · have hs' : ¬ b255 ≤ (x + y) % b256 := fun h => by rw [hs.2 h] at hn; cases hn
    by_cases a : x < 0 <;> by_cases b : y < 0 <;> simp [a, b] <;> unfold b255 b256 at * <;> omega
  · have hs' := hs.1 hn
    by_cases a : x < 0 <;> by_cases b : y < 0 <;> simp [a, b] <;> unfold b255 b256 at * <;> omega
theorem subB_ok {x y : Int} (ix : InI x) (iy : InI y) : subB x y = okI (x - y) := by
  unfold subB okI
  rw [ng_in ix, ng_in iy]
  have hs := ng_iff (x - y)
  obtain ⟨h1, h2⟩ := ix
  obtain ⟨h3, h4⟩ := iy
  rw [Bool.eq_iff_iff, decide_eq_true_iff]
  unfold InI
  cases hn : ng (x - y)
  · have hs' : ¬ b255 ≤ (x - y) % b256 := fun h => by rw [hs.2 h] at hn; cases hn
    by_cases a : x < 0 <;> by_cases b : y < 0 <;> simp [a, b] <;> unfold b255 b256 at * <;> omega
  · have hs' := hs.1 hn
    by_cases a : x < 0 <;> by_cases b : y < 0 <;> simp [a, b] <;> unfold b255 b256 at * <;> omega

theorem Add_ok (x y : Int) (w : World) (ix : InI x) (iy : InI y) : Calls Try.prog 100 #[wI x, wI y] w fun e w' => e = .returned (.tuple #[wI (bif okI (x + y) then x + y else 0), .bool (okI (x + y))]) ∧ Below w.heap.size w w' := by
  rw [← addB_ok ix iy]; exact Add_any x y w
theorem Sub_ok (x y : Int) (w : World) (ix : InI x) (iy : InI y) : Calls Try.prog 75 #[wI x, wI y] w fun e w' => e = .returned (.tuple #[wI (bif okI (x - y) then x - y else 0), .bool (okI (x - y))]) ∧ Below w.heap.size w w' := by
  rw [← subB_ok ix iy]; exact Sub_any x y w
end Go.Proofs.Ytkaolhlmimalkaa
namespace Go.Proofs.Ytkaolhlmimalkaa
open Go.RowKit

/-- a slice of ints that holds these digits -/
structure Sl (w : World) (ao : Option Addr) (b : Nat) (cap : Nat) (ds : List Int) : Prop where
  ptr : 0 < ds.length → ao = some ⟨b, 0, none⟩
  nil : ao = none → cap = 0
  capl : ds.length ≤ cap
  len : ds.length < 1073741824
  capb : cap ≤ 9223372036854775807
  cell : ∀ i, i < ds.length → w.cell? ⟨b, i, none⟩ = some (.int .i64 (ds.getD i 0))
  blk : 0 < ds.length → b < w.heap.size
theorem Sl.of {w w' : World} {ao : Option Addr} {b cap : Nat} {ds : List Int} (h : Sl w ao b cap ds) (hb : Below w.heap.size w w') : Sl w' ao b cap ds :=
  ⟨h.ptr, h.nil, h.capl, h.len, h.capb, fun i hi => by rw [hb.cell (p := ⟨b, i, none⟩) (h.blk (by omega))]; exact h.cell i hi, fun hl => Nat.lt_of_lt_of_le (h.blk hl) hb.size⟩

/-- a Big that is the number n, of at most L digits -/
def Big (w : World) (v : Value) (n : Int) (L : Nat) : Prop :=
  ∃ (neg : Bool) (ao : Option Addr) (b cap : Nat) (ds : List Int), v = .agg #[.bool neg, .slice ao ds.length cap] ∧ Sl w ao b cap ds ∧ DigOk ds ∧ Norm ds ∧ (ds = [] → neg = false ∧ ao = none) ∧ n = (bif neg then -dval ds else dval ds) ∧ ds.length ≤ L
theorem Big.of {w w' : World} {v : Value} {n : Int} {L : Nat} (h : Big w v n L) (hb : Below w.heap.size w w') : Big w' v n L := by
  obtain ⟨neg, ao, b, cap, ds, h1, h2, h3⟩ := h
  exact ⟨neg, ao, b, cap, ds, h1, h2.of hb, h3⟩
theorem Big.drew {w : World} {v : Value} {n : Int} {L : Nat} (h : Big w v n L) : Big w.drew v n L := h.of (Below.refl _ _).drew
theorem Big.zero (w : World) (L : Nat) : Big w (.agg #[.bool false, .slice none 0 0]) 0 L :=
  ⟨false, none, 0, 0, [], rfl, ⟨fun h => absurd h (Nat.lt_irrefl 0), fun _ => rfl, Nat.le_refl _, by decide, by decide, fun i hi => absurd hi (Nat.not_lt_zero i), fun h => absurd h (Nat.lt_irrefl 0)⟩, DigOk.nil, .inl rfl, fun _ => ⟨rfl, rfl⟩, rfl, Nat.zero_le _⟩
theorem Big.mono {w : World} {v : Value} {n : Int} {L L' : Nat} (h : Big w v n L) (hl : L ≤ L') : Big w v n L' := by
  obtain ⟨neg, ao, b, cap, ds, h1, h2, h3, h4, h5, h6, h7⟩ := h
  exact ⟨neg, ao, b, cap, ds, h1, h2, h3, h4, h5, h6, Nat.le_trans h7 hl⟩


/-- it hands back some Big that is n -/
def GivesBig (w : World) (n : Int) (L : Nat) (e : Ending) (w' : World) : Prop := ∃ v, e = .returned v ∧ Big w' v n L ∧ Below w.heap.size w w'

end Go.Proofs.Ytkaolhlmimalkaa
namespace Go.Proofs.Ytkaolhlmimalkaa
open Go.RowKit

theorem Sl.cut {w : World} {b cap : Nat} {ds : List Int} (h : Sl w (some ⟨b, 0, none⟩) b cap ds) {j : Nat} (hj : j < ds.length) : Sl w (some ⟨b, 0, none⟩) b cap (ds.take (j + 1)) := by
  have hl : (ds.take (j + 1)).length = j + 1 := by rw [List.length_take]; omega
  have h1 := h.capl; have h2 := h.len
  refine ⟨fun _ => rfl, fun h => (by cases h), by omega, by omega, h.capb, fun i hi => ?_, fun _ => h.blk (by omega)⟩
  rw [hl] at hi
  rw [h.cell i (by omega)]
  simp [hi]
theorem Sl.below {w w' : World} {ao : Option Addr} {b cap : Nat} {ds : List Int} (h : Sl w ao b cap ds) (hb : Below w.heap.size w w') : Sl w' ao b cap ds := h.of hb

end Go.Proofs.Ytkaolhlmimalkaa
namespace Go.Proofs.Ytkaolhlmimalkaa
open Go.RowKit

theorem info_int : (Try.prog.info? 3).map (fun i => (i.zero, i.size, i.bytes)) = some (some (.int .i64 0), 1, 8) := by kernel_rfl

end Go.Proofs.Ytkaolhlmimalkaa
namespace Go.Proofs.Ytkaolhlmimalkaa
open Go.RowKit

end Go.Proofs.Ytkaolhlmimalkaa

namespace Go.Proofs.Ytkaolhlmimalkaa
open Go.RowKit

theorem below_a1 (w : World) (o1 : Obj) : Below w.heap.size w (w.alloc o1) := (Below.refl _ _).alloc (Nat.le_refl _) _
theorem below_a2 (w : World) (o1 o2 : Obj) : Below w.heap.size w ((w.alloc o1).alloc o2) := (below_a1 w o1).alloc (by simp) _
theorem below_a3 (w : World) (o1 o2 o3 : Obj) : Below w.heap.size w (((w.alloc o1).alloc o2).alloc o3) := (below_a2 w o1 o2).alloc (by simp; omega) _
end Go.Proofs.Ytkaolhlmimalkaa
namespace Go.Proofs.Ytkaolhlmimalkaa
open Go.RowKit
theorem GivesBig.mono {w : World} {n : Int} {L L' : Nat} (hl : L ≤ L') {e : Ending} {w' : World} (h : GivesBig w n L e w') : GivesBig w n L' e w' := by
  obtain ⟨v, h1, h2, h3⟩ := h
  exact ⟨v, h1, h2.mono hl, h3⟩
end Go.Proofs.Ytkaolhlmimalkaa
namespace Go.Proofs.Ytkaolhlmimalkaa
open Go.RowKit
end Go.Proofs.Ytkaolhlmimalkaa
namespace Go.Proofs.Ytkaolhlmimalkaa

/-- the number of some words -/
def uval : List Int → Int
  | [] => 0
  | d :: t => d + 18446744073709551616 * uval t
def WordsOk (ws : List Int) : Prop := ∀ d ∈ ws, Wd d
theorem p2_pos (n : Nat) : (0 : Int) < 2 ^ n := Int.pow_pos (by decide)
theorem P15_two (n : Nat) : P15 n = 2 ^ (15 * n) := by
  induction n with
  | zero => rfl
  | succ n ih => rw [P15_succ, ih, Nat.mul_add, Int.pow_add, Int.mul_comm]; rfl
theorem mod_succ (x : Int) (i : Nat) : x % 2 ^ (i + 1) = x % 2 ^ i + x / 2 ^ i % 2 * 2 ^ i := by
  have h1 := Int.emod_add_mul_ediv x (2 ^ i)
  have h2 := Int.emod_add_mul_ediv (x / 2 ^ i) 2
  have p := p2_pos i
  have r0 := Int.emod_nonneg x (Int.ne_of_gt p)
  have r1 := Int.emod_lt_of_pos x p
  have t0 : 0 ≤ x / 2 ^ i % 2 := Int.emod_nonneg _ (by decide)
  have t1 : x / 2 ^ i % 2 < 2 := Int.emod_lt_of_pos _ (by decide)
  have e : (2 : Int) ^ (i + 1) = 2 ^ i * 2 := Int.pow_succ ..
  have b0 : 0 ≤ x / 2 ^ i % 2 * 2 ^ i := Int.mul_nonneg t0 (Int.le_of_lt p)
  have b1 : x / 2 ^ i % 2 * 2 ^ i ≤ 1 * 2 ^ i := Int.mul_le_mul_of_nonneg_right (by omega) (Int.le_of_lt p)
  refine (div_unique (q := x / 2 ^ i / 2) ?_ (by omega) (by omega)).2
  have e5 : (2 : Int) ^ (i + 1) * (x / 2 ^ i / 2) = 2 ^ i * (2 * (x / 2 ^ i / 2)) := by rw [e, Int.mul_assoc]
  have e6 : 2 ^ i * (x / 2 ^ i) = 2 ^ i * (x / 2 ^ i % 2) + 2 ^ i * (2 * (x / 2 ^ i / 2)) := by rw [← Int.mul_add, h2]
  have e7 : x / 2 ^ i % 2 * 2 ^ i = 2 ^ i * (x / 2 ^ i % 2) := Int.mul_comm ..
  omega

/-- the first i bits of N, as digits and what is gathered for the next one -/
structure Gat (N : Int) (i m : Nat) (ds : List Int) (r : Int) : Prop where
  ok : DigOk ds
  pos : i = 15 * ds.length + m
  sum : dval ds + P15 ds.length * r = N % 2 ^ i
  lo : 0 ≤ r
  hi : r < 2 ^ m
theorem Gat.zero (N : Int) : Gat N 0 0 [] 0 := ⟨DigOk.nil, rfl, by simp [dval], by decide, by decide⟩
theorem Gat.bit {N : Int} {i m : Nat} {ds : List Int} {r b : Int} (h : Gat N i m ds r) (hb : b = N / 2 ^ i % 2) :
    dval ds + P15 ds.length * (r + b * 2 ^ m) = N % 2 ^ (i + 1) ∧ 0 ≤ r + b * 2 ^ m ∧ r + b * 2 ^ m < 2 ^ (m + 1) := by
  have p := p2_pos m
  have t0 : 0 ≤ b := hb ▸ Int.emod_nonneg _ (by decide)
  have t1 : b < 2 := hb ▸ Int.emod_lt_of_pos _ (by decide)
  have b0 : 0 ≤ b * 2 ^ m := Int.mul_nonneg t0 (Int.le_of_lt p)
  have b1 : b * 2 ^ m ≤ 1 * 2 ^ m := Int.mul_le_mul_of_nonneg_right (by omega) (Int.le_of_lt p)
  have e : (2 : Int) ^ (m + 1) = 2 ^ m * 2 := Int.pow_succ ..
  have := h.lo; have := h.hi
  refine ⟨?_, by omega, by omega⟩
  rw [mod_succ, ← hb, ← h.sum, Int.mul_add]
  have e2 : (2 : Int) ^ i = P15 ds.length * 2 ^ m := by rw [P15_two, ← Int.pow_add, ← h.pos]
  rw [e2]
  have e3 : b * (P15 ds.length * 2 ^ m) = P15 ds.length * (b * 2 ^ m) := Int.mul_left_comm ..
  omega
theorem Gat.on {N : Int} {i m : Nat} {ds : List Int} {r b : Int} (h : Gat N i m ds r) (hb : b = N / 2 ^ i % 2) : Gat N (i + 1) (m + 1) ds (r + b * 2 ^ m) := by
  obtain ⟨h1, h2, h3⟩ := h.bit hb
  exact ⟨h.ok, by have := h.pos; omega, h1, h2, h3⟩
theorem Gat.next {N : Int} {i : Nat} {ds : List Int} {r b : Int} (h : Gat N i 14 ds r) (hb : b = N / 2 ^ i % 2) : Gat N (i + 1) 0 (ds ++ [r + b * 2 ^ 14]) 0 := by
  obtain ⟨h1, h2, h3⟩ := h.bit hb
  have h3' : r + b * 2 ^ 14 < 32768 := h3
  refine ⟨h.ok.append (DigOk.one ⟨h2, h3'⟩), ?_, ?_, by decide, by decide⟩
  · have := h.pos; rw [List.length_append, List.length_singleton]; omega
  · rw [Int.mul_zero, Int.add_zero, dval_append, ← h1]; simp [dval]
theorem Gat.done {N : Int} {i m : Nat} {ds : List Int} {r : Int} (h : Gat N i m ds r) (hm : m ≤ 14) (h0 : 0 ≤ N) (h1 : N < 2 ^ i) : DigOk (ds ++ [r]) ∧ dval (ds ++ [r]) = N := by
  have e : (2 : Int) ^ m ≤ 2 ^ 14 := by
    have := p2_pos (14 - m); have p := p2_pos m
    have e : (2 : Int) ^ 14 = 2 ^ m * 2 ^ (14 - m) := by rw [← Int.pow_add, show m + (14 - m) = 14 by omega]
    have : (2 : Int) ^ m * 1 ≤ 2 ^ m * 2 ^ (14 - m) := Int.mul_le_mul_of_nonneg_left (by omega) (by omega)
    omega
  have e14 : (2 : Int) ^ 14 = 16384 := rfl
  have := h.lo; have := h.hi
  refine ⟨h.ok.append (DigOk.one ⟨by omega, by omega⟩), ?_⟩
  have := h.sum
  rw [Int.emod_eq_of_lt h0 h1] at this
  rw [dval_append, ← this]; simp [dval]

theorem dval_set {ds : List Int} {j : Nat} (hj : j < ds.length) (v : Int) : dval (ds.set j v) = dval ds + P15 j * (v - ds.getD j 0) := by
  induction ds generalizing j with
  | nil => cases hj
  | cons d t ih =>
    cases j with
    | zero => simp [dval, P15_0]; omega
    | succ j =>
      have hj' : j < t.length := by simpa using hj
      rw [List.set_cons_succ, dval, dval, ih hj', P15_succ, List.getD_cons_succ, Int.mul_add, Int.mul_assoc]; omega
theorem DigOk.set {ds : List Int} (h : DigOk ds) {v : Int} (hv : 0 ≤ v ∧ v < 32768) (j : Nat) : DigOk (ds.set j v) := fun x hx => by
  rcases List.mem_or_eq_of_mem_set hx with h' | h'
  · exact h x h'
  · rw [h']; exact hv
theorem getD_set_ne {ds : List Int} {i j : Nat} (h : i ≠ j) (v : Int) : (ds.set i v).getD j 0 = ds.getD j 0 := by
  simp [List.getD, List.getElem?_set_ne h]
theorem dval_take_succ' (ds : List Int) (k : Nat) : dval (ds.take (k + 1)) = dval (ds.take k) + P15 k * ds.getD k 0 := by
  rcases Nat.lt_or_ge k ds.length with h | h
  · rw [List.take_succ_eq_append_getElem h, dval_append, List.length_take, Nat.min_eq_left (by omega), getD_in' h]
    simp [dval]
  · rw [List.take_of_length_le (by omega), List.take_of_length_le h, getD_out h]; simp

/-- the product so far: all of the first i digits, and of the next one as many as k of the other number's -/
structure Prd (xs ys : List Int) (n i k : Nat) (out : List Int) (c : Int) : Prop where
  ok : DigOk out
  len : out.length = n
  sum : dval out + P15 (i + k) * c = dval (xs.take i) * dval ys + P15 i * (xs.getD i 0 * dval (ys.take k))
  far : ∀ j, i + ys.length ≤ j → out.getD j 0 = 0
  lo : 0 ≤ c
  hi : c ≤ 32767
theorem Prd.start {xs ys : List Int} {n i : Nat} {out : List Int} (h1 : DigOk out) (h2 : out.length = n) (h3 : dval out = dval (xs.take i) * dval ys) (h4 : ∀ j, i + ys.length ≤ j → out.getD j 0 = 0) : Prd xs ys n i 0 out 0 :=
  ⟨h1, h2, by rw [h3]; simp [dval], h4, by decide, by decide⟩
theorem prd_n {a x y c : Int} (ha : 0 ≤ a ∧ a < 32768) (hx : 0 ≤ x ∧ x < 32768) (hy : 0 ≤ y ∧ y < 32768) (hc : 0 ≤ c ∧ c ≤ 32767) :
    0 ≤ x * y ∧ x * y ≤ 1073676289 ∧ 0 ≤ (a + x * y + c) / 32768 ∧ (a + x * y + c) / 32768 ≤ 32767 := by
  have h1 : 0 ≤ x * y := Int.mul_nonneg hx.1 hy.1
  have h2 : x * y ≤ 32767 * 32767 := Int.mul_le_mul (by omega) (by omega) hy.1 (by decide)
  omega
theorem Prd.step {xs ys : List Int} {n i k : Nat} {out : List Int} {c x y a : Int} (h : Prd xs ys n i k out c) (dx : DigOk xs) (dy : DigOk ys) (hk : k < ys.length) (hn : i + ys.length < n)
    (hx : x = xs.getD i 0) (hy : y = ys.getD k 0) (ha : a = out.getD (i + k) 0) :
    Prd xs ys n i (k + 1) (out.set (i + k) ((a + x * y + c) % 32768)) ((a + x * y + c) / 32768) := by
  have b := prd_n (ha ▸ h.ok.get (i + k)) (hx ▸ dx.get i) (hy ▸ dy.get k) ⟨h.lo, h.hi⟩
  refine ⟨h.ok.set (by omega) _, by rw [List.length_set]; exact h.len, ?_, fun j hj => ?_, b.2.2.1, b.2.2.2⟩
  · rw [dval_set (by rw [h.len]; omega), ← ha, dval_take_succ', ← hx, ← hy, ← Nat.add_assoc, P15_succ]
    have e1 := h.sum
    rw [← hx] at e1
    have e2 := Int.emod_add_mul_ediv (a + x * y + c) 32768
    have e3 : 32768 * P15 (i + k) * ((a + x * y + c) / 32768) = P15 (i + k) * (32768 * ((a + x * y + c) / 32768)) := by rw [Int.mul_comm 32768, Int.mul_assoc]
    have e4 : P15 (i + k) * ((a + x * y + c) % 32768 - a) + P15 (i + k) * (32768 * ((a + x * y + c) / 32768)) = P15 (i + k) * (x * y) + P15 (i + k) * c := by
      rw [← Int.mul_add, ← Int.mul_add]
      have e6 : (a + x * y + c) % 32768 - a + 32768 * ((a + x * y + c) / 32768) = x * y + c := by omega
      rw [e6]
    have e5 : P15 i * (x * (dval (ys.take k) + P15 k * y)) = P15 i * (x * dval (ys.take k)) + P15 (i + k) * (x * y) := by
      rw [Int.mul_add, Int.mul_add, P15_add, Int.mul_assoc (P15 i), Int.mul_left_comm x]
    rw [e5, e3]; omega
  · rw [getD_set_ne (by omega)]; exact h.far j hj
theorem Prd.row {xs ys : List Int} {n i : Nat} {out : List Int} {c a : Int} (h : Prd xs ys n i ys.length out c) (hn : i + ys.length < n) (ha : a = out.getD (i + ys.length) 0) :
    Prd xs ys n (i + 1) 0 (out.set (i + ys.length) (a + c)) 0 := by
  have a0 : a = 0 := ha.trans (h.far _ (Nat.le_refl _))
  subst a0
  rw [Int.zero_add]
  refine Prd.start (h.ok.set ⟨h.lo, by have := h.hi; omega⟩ _) (by rw [List.length_set]; exact h.len) ?_ fun j hj => ?_
  · rw [dval_set (by rw [h.len]; omega), ← ha, Int.sub_zero, h.sum, List.take_of_length_le (Nat.le_refl _), dval_take_succ', Int.add_mul, Int.mul_assoc]
  · rw [getD_set_ne (by omega)]; exact h.far j (by omega)
theorem dval_repl (n : Nat) : dval (List.replicate n 0) = 0 := by
  induction n with
  | zero => rfl
  | succ n ih => rw [List.replicate_succ, dval, ih]; rfl
theorem Prd.zero (xs ys : List Int) (n : Nat) : Prd xs ys n 0 0 (List.replicate n 0) 0 := by
  refine Prd.start (fun x hx => by rw [(List.mem_replicate.1 hx).2]; decide) (List.length_replicate ..) (by rw [dval_repl]; simp [dval]) fun j _ => ?_
  rcases Nat.lt_or_ge j n with h | h
  · rw [getD_in' (by rw [List.length_replicate]; exact h)]; simp
  · exact getD_out (by rw [List.length_replicate]; exact h)
theorem Prd.all {xs ys : List Int} {n : Nat} {out : List Int} {c : Int} (h : Prd xs ys n xs.length 0 out c) (hc : c = 0) : DigOk out ∧ dval out = dval xs * dval ys := by
  refine ⟨h.ok, ?_⟩
  have := h.sum
  rw [hc, Int.mul_zero, Int.add_zero, List.take_of_length_le (Nat.le_refl _)] at this
  rw [this]; simp [dval]
end Go.Proofs.Ytkaolhlmimalkaa
namespace Go.Proofs.Ytkaolhlmimalkaa

end Go.Proofs.Ytkaolhlmimalkaa
namespace Go.Proofs.Ytkaolhlmimalkaa
open Go.RowKit

/-- a slice of words that holds these -/
structure Ws (w : World) (b : Nat) (ws : List Int) : Prop where
  cell : ∀ i, i < ws.length → w.cell? ⟨b, i, none⟩ = some (.int .u64 (ws.getD i 0))
  blk : b < w.heap.size
  ok : WordsOk ws
  len : ws.length ≤ 4
theorem Ws.of {w w' : World} {b : Nat} {ws : List Int} (h : Ws w b ws) (hb : Below w.heap.size w w') : Ws w' b ws :=
  ⟨fun i hi => by rw [hb.cell (p := ⟨b, i, none⟩) h.blk]; exact h.cell i hi, Nat.lt_of_lt_of_le h.blk hb.size, h.ok, h.len⟩

theorem Blk.grown {w w' : World} {b : Nat} {c : Array Value} {t : TypeId} {row : Option Nat} (h : Blk w b c t) (hg : w.grownBy w' row) (hne : row ≠ some b) : Blk w' b c t := by
  have := hg.block b h.lt (fun e => hne e.symm)
  exact this.trans h
end Go.Proofs.Ytkaolhlmimalkaa
namespace Go.Proofs.Ytkaolhlmimalkaa
open Go.RowKit

/-- a number that is not too great has not too many digits -/
theorem Big.fit {w : World} {v : Value} {n : Int} {L k : Nat} (h : Big w v n L) (hk : -P15 k < n ∧ n < P15 k) : Big w v n k := by
  obtain ⟨neg, ao, b, cap, ds, h1, h2, h3, h4, h5, h6, h7⟩ := h
  refine ⟨neg, ao, b, cap, ds, h1, h2, h3, h4, h5, h6, norm_len h3 h4 ?_⟩
  cases neg <;> simp at h6 <;> omega
theorem GivesBig.fit {w : World} {n : Int} {L k : Nat} {e : Ending} {w' : World} (h : GivesBig w n L e w') (hk : -P15 k < n ∧ n < P15 k) : GivesBig w n k e w' := by
  obtain ⟨v, h1, h2, h3⟩ := h
  exact ⟨v, h1, h2.fit hk, h3⟩
end Go.Proofs.Ytkaolhlmimalkaa
namespace Go.Proofs.Ytkaolhlmimalkaa
open Go.RowKit

end Go.Proofs.Ytkaolhlmimalkaa

namespace Go.Proofs.Ytkaolhlmimalkaa
open Go.RowKit

end Go.Proofs.Ytkaolhlmimalkaa
namespace Go.Proofs.Ytkaolhlmimalkaa
open Go.RowKit

end Go.Proofs.Ytkaolhlmimalkaa
namespace Go.Proofs.Ytkaolhlmimalkaa
open Go.RowKit

theorem name_q {Q : Exit → Act → World → Prop} {e : Exit} {a : Act} {w : World} (h : ∀ W, W = w → Q e a W) : Q e a w := h w rfl

/-- where the search for the common one stands -/
structure ComAt (w : World) (a b : Int) (wr : World) : Prop where
  va : Var wr w.heap.size a
  vb : Var wr (w.heap.size + 1) b
  v0 : Var wr (w.heap.size + 1 + 1) 0
  below : Below w.heap.size w wr
theorem ComAt.of {w : World} {a b : Int} {wr w' : World} (h : ComAt w a b wr) (hn : Below wr.heap.size wr w') : ComAt w a b w' :=
  ⟨h.va.of hn, h.vb.of hn, h.v0.of hn, h.below.trans (hn.mono h.below.size)⟩

end Go.Proofs.Ytkaolhlmimalkaa
namespace Go.Proofs.Ytkaolhlmimalkaa
open Go.RowKit

theorem Sign_is (x : Int) (s : Int) (hs : x.sign = s) (w : World) (h : InI x) :
    Calls Try.prog 52 #[wI x] w fun e w' => e = .returned (.int .i64 s) ∧ Below w.heap.size w w' := hs ▸ Sign_any x w h
end Go.Proofs.Ytkaolhlmimalkaa
namespace Go.Proofs.Ytkaolhlmimalkaa
open Go.RowKit

end Go.Proofs.Ytkaolhlmimalkaa
namespace Go.Proofs.Ytkaolhlmimalkaa
open Go.RowKit

/-- a fraction of two Bigs -/
def BRat (w : World) (v : Value) (n d : Int) (L : Nat) : Prop :=
  ∃ (n1 : Bool) (a1 : Option Addr) (l1 c1 : Nat) (n2 : Bool) (a2 : Option Addr) (l2 c2 : Nat), v = .agg #[.bool n1, .slice a1 l1 c1, .bool n2, .slice a2 l2 c2] ∧ Big w (.agg #[.bool n1, .slice a1 l1 c1]) n L ∧ Big w (.agg #[.bool n2, .slice a2 l2 c2]) d L
theorem BRat.of {w w' : World} {v : Value} {n d : Int} {L : Nat} (h : BRat w v n d L) (hb : Below w.heap.size w w') : BRat w' v n d L := by
  obtain ⟨n1, a1, l1, c1, n2, a2, l2, c2, h1, h2, h3⟩ := h
  exact ⟨n1, a1, l1, c1, n2, a2, l2, c2, h1, h2.of hb, h3.of hb⟩
instance (x : Int) : Decidable (In64 x) := by unfold In64; exact inferInstance
end Go.Proofs.Ytkaolhlmimalkaa
namespace Go.Proofs.Ytkaolhlmimalkaa
open Go.RowKit

set_option maxRecDepth 100000 in
set_option maxHeartbeats 1000000 in
theorem mul64_nat (x y : Nat) (hx : x < 18446744073709551616) (hy : y < 18446744073709551616) (w : World) :
    Calls Try.prog 77 #[.int .u64 x, .int .u64 y] w fun e w' => e = .returned (.tuple #[.int .u64 ((x * y / 18446744073709551616 : Nat) : Int), .int .u64 ((x * y % 18446744073709551616 : Nat) : Int)]) ∧ w' = w := by
  obtain ⟨bd, bt, bw, hhi⟩ := Go.Lib.mul64_hi x y hx hy
  have ba := Go.Lib.half_mul_le (a := x / 4294967296) (b := y / 4294967296) (by omega) (by omega)
  have bb := Go.Lib.half_mul_le (a := x / 4294967296) (b := y % 4294967296) (by omega) (by omega)
  have bc := Go.Lib.half_mul_le (a := x % 4294967296) (b := y / 4294967296) (by omega) (by omega)
  have ba' : x / 4294967296 * (y / 4294967296) < 18446744073709551616 := by omega
  have bb' : x / 4294967296 * (y % 4294967296) < 18446744073709551616 := by omega
  have bc' : x % 4294967296 * (y / 4294967296) < 18446744073709551616 := by omega
  have bh1 : x / 4294967296 * (y / 4294967296) + (x / 4294967296 * (y % 4294967296) + x % 4294967296 * (y % 4294967296) / 4294967296) / 4294967296 < 18446744073709551616 := by omega
  have bh : x / 4294967296 * (y / 4294967296) + (x / 4294967296 * (y % 4294967296) + x % 4294967296 * (y % 4294967296) / 4294967296) / 4294967296 + ((x / 4294967296 * (y % 4294967296) + x % 4294967296 * (y % 4294967296) / 4294967296) % 4294967296 + x % 4294967296 * (y / 4294967296)) / 4294967296 < 18446744073709551616 := by omega
  go_enter Try.func77, Try.ntmps77
  go_wp2
  simp only [Mul64.maskN x hx, Mul64.maskN y hy, Mul64.divN, Mul64.mulN, Mul64.addN, Mul64.wrapN _ bd, Mul64.wrapN _ bb', Mul64.wrapN _ bt, Mul64.maskN _ bt, Mul64.wrapN _ bc', Mul64.wrapN _ bw, Mul64.wrapN _ ba', Mul64.wrapN _ bh1, Mul64.wrapN _ bh, Mul64.wrapM (x * y)]
  rw [hhi]
  go_ret2
  exact ⟨rfl, rfl⟩

theorem mul64_any (x y : Int) (hx : Wd x) (hy : Wd y) (w : World) :
    Calls Try.prog 77 #[.int .u64 x, .int .u64 y] w fun e w' => e = .returned (.tuple #[.int .u64 (x * y / 18446744073709551616), .int .u64 (x * y % 18446744073709551616)]) ∧ w = w' := by
  obtain ⟨x0, x1⟩ := hx
  obtain ⟨y0, y1⟩ := hy
  obtain ⟨m, rfl⟩ := Int.eq_ofNat_of_zero_le x0
  obtain ⟨n, rfl⟩ := Int.eq_ofNat_of_zero_le y0
  refine (mul64_nat m n (by omega) (by omega) w).mono fun e w' ⟨he, hw⟩ => ⟨?_, hw.symm⟩
  rw [he]
  simp only [Int.natCast_ediv, Int.natCast_emod, Int.natCast_mul]
  rfl
end Go.Proofs.Ytkaolhlmimalkaa
namespace Go.Proofs.Ytkaolhlmimalkaa

/-- 2^64 to the power of n -/
def P64 (n : Nat) : Int := 18446744073709551616 ^ n
theorem P64_0 : P64 0 = 1 := rfl
theorem P64_succ (n : Nat) : P64 (n + 1) = 18446744073709551616 * P64 n := by unfold P64; rw [Int.pow_succ, Int.mul_comm]
theorem P64_add (m n : Nat) : P64 (m + n) = P64 m * P64 n := by unfold P64; rw [Int.pow_add]

theorem uval_append (a b : List Int) : uval (a ++ b) = uval a + P64 a.length * uval b := by
  induction a with
  | nil => simp [uval, P64_0]
  | cons d t ih => rw [List.cons_append, uval, uval, ih, List.length_cons, P64_succ, Int.mul_add, Int.mul_assoc]; omega
theorem uval_take_succ (ds : List Int) (k : Nat) : uval (ds.take (k + 1)) = uval (ds.take k) + P64 k * ds.getD k 0 := by
  rcases Nat.lt_or_ge k ds.length with h | h
  · rw [List.take_succ_eq_append_getElem h, uval_append, List.length_take, Nat.min_eq_left (by omega), getD_in' h]
    simp [uval]
  · rw [List.take_of_length_le (by omega), List.take_of_length_le h, getD_out h]; simp
theorem uval_set {ds : List Int} {j : Nat} (hj : j < ds.length) (v : Int) : uval (ds.set j v) = uval ds + P64 j * (v - ds.getD j 0) := by
  induction ds generalizing j with
  | nil => cases hj
  | cons d t ih =>
    cases j with
    | zero => simp [uval, P64_0]; omega
    | succ j =>
      have hj' : j < t.length := by simpa using hj
      rw [List.set_cons_succ, uval, uval, ih hj', P64_succ, List.getD_cons_succ, Int.mul_add, Int.mul_assoc]; omega
theorem WordsOk.set {ds : List Int} (h : WordsOk ds) {v : Int} (hv : Wd v) (j : Nat) : WordsOk (ds.set j v) := fun x hx => by
  rcases List.mem_or_eq_of_mem_set hx with h' | h'
  · exact h x h'
  · rw [h']; exact hv
theorem WordsOk.get {ws : List Int} (h : WordsOk ws) (i : Nat) : Wd (ws.getD i 0) := by
  by_cases hi : i < ws.length
  · rw [getD_in' hi]; exact h _ (List.getElem_mem hi)
  · rw [getD_out (by omega)]; exact ⟨by decide, by decide⟩

/-- one step of the product: what the two sums with carry make of it -/
theorem mul_step {x y o c : Int} (hx : Wd x) (hy : Wd y) (ho : Wd o) (hc : Wd c) :
    Wd (x * y / 18446744073709551616) ∧ Wd (x * y % 18446744073709551616) ∧
    (0 ≤ (x * y % 18446744073709551616 + o) / 18446744073709551616 ∧ (x * y % 18446744073709551616 + o) / 18446744073709551616 ≤ 1) ∧ Wd ((x * y % 18446744073709551616 + o) % 18446744073709551616) ∧
    Wd (x * y / 18446744073709551616 + (x * y % 18446744073709551616 + o) / 18446744073709551616) ∧
    ((x * y % 18446744073709551616 + o) % 18446744073709551616 + c) % 18446744073709551616 = (x * y + o + c) % 18446744073709551616 ∧
    x * y / 18446744073709551616 + (x * y % 18446744073709551616 + o) / 18446744073709551616 + ((x * y % 18446744073709551616 + o) % 18446744073709551616 + c) / 18446744073709551616 = (x * y + o + c) / 18446744073709551616 ∧
    Wd ((x * y + o + c) / 18446744073709551616) ∧ Wd ((x * y + o + c) % 18446744073709551616) := by
  obtain ⟨x0, x1⟩ := hx
  obtain ⟨y0, y1⟩ := hy
  obtain ⟨o0, o1⟩ := ho
  obtain ⟨c0, c1⟩ := hc
  have h1 : 0 ≤ x * y := Int.mul_nonneg x0 y0
  have h2 : x * y ≤ 18446744073709551615 * 18446744073709551615 := Int.mul_le_mul (by omega) (by omega) y0 (by decide)
  generalize x * y = p at *
  have h3 : p ≤ 340282366920938463426481119284349108225 := h2
  refine ⟨⟨?_, ?_⟩, ⟨?_, ?_⟩, ⟨?_, ?_⟩, ⟨?_, ?_⟩, ⟨?_, ?_⟩, ?_, ?_, ⟨?_, ?_⟩, ⟨?_, ?_⟩⟩ <;> omega

/-- the product so far: all of the first i words, and of the next one as many as k of the other number's -/
structure Prw (xs ys : List Int) (n i k : Nat) (out : List Int) (c : Int) : Prop where
  ok : WordsOk out
  len : out.length = n
  sum : uval out + P64 (i + k) * c = uval (xs.take i) * uval ys + P64 i * (xs.getD i 0 * uval (ys.take k))
  far : ∀ j, i + ys.length ≤ j → out.getD j 0 = 0
  cw : Wd c
theorem Prw.start {xs ys : List Int} {n i : Nat} {out : List Int} (h1 : WordsOk out) (h2 : out.length = n) (h3 : uval out = uval (xs.take i) * uval ys) (h4 : ∀ j, i + ys.length ≤ j → out.getD j 0 = 0) : Prw xs ys n i 0 out 0 :=
  ⟨h1, h2, by rw [h3]; simp [uval], h4, by decide, by decide⟩
theorem Prw.step {xs ys : List Int} {n i k : Nat} {out : List Int} {c x y a : Int} (h : Prw xs ys n i k out c) (dx : WordsOk xs) (dy : WordsOk ys) (hk : k < ys.length) (hn : i + ys.length ≤ n)
    (hx : x = xs.getD i 0) (hy : y = ys.getD k 0) (ha : a = out.getD (i + k) 0) :
    Prw xs ys n i (k + 1) (out.set (i + k) ((x * y + a + c) % 18446744073709551616)) ((x * y + a + c) / 18446744073709551616) := by
  have b := mul_step (hx ▸ dx.get i) (hy ▸ dy.get k) (ha ▸ h.ok.get (i + k)) h.cw
  obtain ⟨_, _, _, _, _, _, _, b1, b2⟩ := b
  refine ⟨h.ok.set b2 _, by rw [List.length_set]; exact h.len, ?_, fun j hj => ?_, b1⟩
  · rw [uval_set (by rw [h.len]; omega), ← ha, uval_take_succ, ← hx, ← hy, ← Nat.add_assoc, P64_succ]
    have e1 := h.sum
    rw [← hx] at e1
    have e3 : 18446744073709551616 * P64 (i + k) * ((x * y + a + c) / 18446744073709551616) = P64 (i + k) * (18446744073709551616 * ((x * y + a + c) / 18446744073709551616)) := by rw [Int.mul_comm 18446744073709551616, Int.mul_assoc]
    have e4 : P64 (i + k) * ((x * y + a + c) % 18446744073709551616 - a) + P64 (i + k) * (18446744073709551616 * ((x * y + a + c) / 18446744073709551616)) = P64 (i + k) * (x * y) + P64 (i + k) * c := by
      rw [← Int.mul_add, ← Int.mul_add]
      have e6 : (x * y + a + c) % 18446744073709551616 - a + 18446744073709551616 * ((x * y + a + c) / 18446744073709551616) = x * y + c := by
        generalize x * y = p at *
        omega
      rw [e6]
    have e5 : P64 i * (x * (uval (ys.take k) + P64 k * y)) = P64 i * (x * uval (ys.take k)) + P64 (i + k) * (x * y) := by
      rw [Int.mul_add, Int.mul_add, P64_add, Int.mul_assoc (P64 i), Int.mul_left_comm x]
    rw [e5, e3]; omega
  · rw [getD_set_ne (by omega)]; exact h.far j hj
theorem Prw.row {xs ys : List Int} {n i : Nat} {out : List Int} {c : Int} (h : Prw xs ys n i ys.length out c) (hn : i + ys.length < n) :
    Prw xs ys n (i + 1) 0 (out.set (i + ys.length) c) 0 := by
  have a0 := h.far _ (Nat.le_refl _)
  refine Prw.start (h.ok.set h.cw _) (by rw [List.length_set]; exact h.len) ?_ fun j hj => ?_
  · rw [uval_set (by rw [h.len]; omega), a0, Int.sub_zero, h.sum, List.take_of_length_le (Nat.le_refl _), uval_take_succ, Int.add_mul, Int.mul_assoc]
  · rw [getD_set_ne (by omega)]; exact h.far j (by omega)
theorem uval_repl (n : Nat) : uval (List.replicate n 0) = 0 := by
  induction n with
  | zero => rfl
  | succ n ih => rw [List.replicate_succ, uval, ih]; rfl
theorem Prw.zero (xs ys : List Int) (n : Nat) : Prw xs ys n 0 0 (List.replicate n 0) 0 := by
  refine Prw.start (fun x hx => by rw [(List.mem_replicate.1 hx).2]; exact ⟨by decide, by decide⟩) (List.length_replicate ..) (by rw [uval_repl]; simp [uval]) fun j _ => ?_
  rcases Nat.lt_or_ge j n with h | h
  · rw [getD_in' (by rw [List.length_replicate]; exact h)]; simp
  · exact getD_out (by rw [List.length_replicate]; exact h)
theorem Prw.all {xs ys : List Int} {n : Nat} {out : List Int} {c : Int} (h : Prw xs ys n xs.length 0 out c) (hc : c = 0) : WordsOk out ∧ uval out = uval xs * uval ys := by
  refine ⟨h.ok, ?_⟩
  have := h.sum
  rw [hc, Int.mul_zero, Int.add_zero, List.take_of_length_le (Nat.le_refl _)] at this
  rw [this]; simp [uval]

/-- eight words: the four high ones are 0 just if the number is below 2^256; then the low ones are its words -/
theorem eight {o0 o1 o2 o3 o4 o5 o6 o7 p : Int} (h : WordsOk [o0, o1, o2, o3, o4, o5, o6, o7]) (hp : uval [o0, o1, o2, o3, o4, o5, o6, o7] = p) :
    eq4 o4 o5 o6 o7 0 0 0 0 = decide (p < b256) ∧ (p < b256 → o0 = wd0 p ∧ o1 = wd1 p ∧ o2 = wd2 p ∧ o3 = wd3 p) := by
  have g0 : Wd o0 := h _ (by simp)
  have g1 : Wd o1 := h _ (by simp)
  have g2 : Wd o2 := h _ (by simp)
  have g3 : Wd o3 := h _ (by simp)
  have g4 : Wd o4 := h _ (by simp)
  have g5 : Wd o5 := h _ (by simp)
  have g6 : Wd o6 := h _ (by simp)
  have g7 : Wd o7 := h _ (by simp)
  have e : p = un4 o0 o1 o2 o3 + b256 * un4 o4 o5 o6 o7 := by
    rw [← hp]; simp only [uval, un4, b64, b128, b192, b256]; omega
  have l := un4_bd g0 g1 g2 g3; have k := un4_bd g4 g5 g6 g7
  have z : eq4 o4 o5 o6 o7 0 0 0 0 = decide (un4 o4 o5 o6 o7 = 0) := by
    obtain ⟨p4, q4⟩ := g4; obtain ⟨p5, q5⟩ := g5; obtain ⟨p6, q6⟩ := g6; obtain ⟨p7, q7⟩ := g7
    rw [Bool.eq_iff_iff, decide_eq_true_iff]
    unfold eq4 un4 b64 b128 b192
    simp only [Bool.and_eq_true, beq_iff_eq]
    constructor
    · rintro ⟨⟨⟨h0, h1⟩, h2⟩, h3⟩; omega
    · intro h; exact ⟨⟨⟨by omega, by omega⟩, by omega⟩, by omega⟩
  have hz : p < b256 ↔ un4 o4 o5 o6 o7 = 0 := by
    constructor
    · intro hlt
      rcases Int.lt_or_eq_of_le k.1 with h | h
      · have : b256 * 1 ≤ b256 * un4 o4 o5 o6 o7 := Int.mul_le_mul_of_nonneg_left (by omega) (by decide)
        omega
      · exact h.symm
    · intro h; rw [h] at e; omega
  refine ⟨by rw [z, Bool.eq_iff_iff, decide_eq_true_iff, decide_eq_true_iff, hz], fun hlt => ?_⟩
  have e2 : p = un4 o0 o1 o2 o3 := by rw [e, hz.1 hlt, Int.mul_zero, Int.add_zero]
  rw [e2]
  exact ⟨(wd0_un4 g0).symm, (wd1_un4 g0 g1).symm, (wd2_un4 g0 g1 g2).symm, (wd3_un4 g0 g1 g2 g3).symm⟩
end Go.Proofs.Ytkaolhlmimalkaa
namespace Go.Proofs.Ytkaolhlmimalkaa
open Go.RowKit

def dw (ds : List Int) : List Value := ds.map (Value.int .u64)
theorem dw_get {ds : List Int} {j : Nat} (h : j < ds.length) : (dw ds).toArray[j]? = some (.int .u64 (ds.getD j 0)) := by
  unfold dw; simp [h]
theorem dw_put (ds : List Int) (j : Nat) (v : Int) : (dw ds).toArray.setIfInBounds j (.int .u64 v) = (dw (ds.set j v)).toArray := by
  unfold dw; rw [List.setIfInBounds_toArray, List.map_set]
/-- the four words of a number -/
def ws4 (x : Int) : List Int := [wd0 x, wd1 x, wd2 x, wd3 x]
theorem ws4_ok (x : Int) : WordsOk (ws4 x) := by
  intro d hd
  simp only [ws4, List.mem_cons, List.not_mem_nil, or_false] at hd
  rcases hd with rfl | rfl | rfl | rfl
  · exact wd0_Wd x
  · exact wd1_Wd x
  · exact wd2_Wd x
  · exact wd3_Wd x
theorem uval_ws4 (x : Int) : uval (ws4 x) = x % b256 := by
  rw [← un4_wd]
  simp only [ws4, uval, un4, b64, b128, b192]; omega
theorem Var.at {w : World} {b : Nat} {x : Int} (h : Var w b x) {i : Nat} (hi : i < 4) : w.cell? ⟨b, i, none⟩ = some (.int .u64 ((ws4 x).getD i 0)) := by
  rw [Blk.cell h]
  match i, hi with
  | 0, _ => rfl
  | 1, _ => rfl
  | 2, _ => rfl
  | 3, _ => rfl

/-- where the product stands -/
structure MulW (w : World) (a b : Int) (b1 b2 b3 : Nat) (out : List Int) (wr : World) : Prop where
  ka : Var wr w.heap.size a
  kb : Var wr (w.heap.size + 1) b
  k0 : Var wr (w.heap.size + 1 + 1) 0
  kx : Var wr b1 (sz a)
  ky : Var wr b2 (sz b)
  ko : Blk wr b3 (dw out).toArray 127
  len : out.length = 8
  l1 : b1 < b3
  l2 : b2 < b3
  l3 : w.heap.size + 1 + 1 < b3
  below : Below w.heap.size w wr
theorem MulW.of {w : World} {a b : Int} {b1 b2 b3 : Nat} {out : List Int} {wr w' : World} (h : MulW w a b b1 b2 b3 out wr) (hn : Below wr.heap.size wr w') : MulW w a b b1 b2 b3 out w' :=
  ⟨h.ka.of hn, h.kb.of hn, h.k0.of hn, h.kx.of hn, h.ky.of hn, h.ko.of hn, h.len, h.l1, h.l2, h.l3, h.below.trans (hn.mono h.below.size)⟩
theorem MulW.put {w : World} {a b : Int} {b1 b2 b3 : Nat} {out : List Int} {wr : World} (h : MulW w a b b1 b2 b3 out wr) (j : Nat) (v : Int) : MulW w a b b1 b2 b3 (out.set j v) (wr.setCell ⟨b3, j, none⟩ (.int .u64 v)) := by
  have h1 := h.l1; have h2 := h.l2; have h3 := h.l3
  exact ⟨h.ka.set (by omega) _ _ _, h.kb.set (by omega) _ _ _, h.k0.set (by omega) _ _ _, h.kx.set (by omega) _ _ _, h.ky.set (by omega) _ _ _, by rw [← dw_put]; exact Blk.put h.ko _ _, by rw [List.length_set]; exact h.len, h1, h2, h3, h.below.setCell (by show _ ≤ b3; omega) _⟩
theorem MulW.outc {w : World} {a b : Int} {b1 b2 b3 : Nat} {out : List Int} {wr : World} (h : MulW w a b b1 b2 b3 out wr) {j : Nat} (hj : j < 8) : wr.cell? ⟨b3, j, none⟩ = some (.int .u64 (out.getD j 0)) := by
  rw [h.ko.cell]; exact dw_get (by rw [h.len]; exact hj)

@[go_sem] theorem run_eq23 (a0 a1 a2 a3 b0 b1 b2 b3 : Int) (w : World) :
    (Op.equalIn 10000 33 (.agg #[.int .u64 a0, .int .u64 a1, .int .u64 a2, .int .u64 a3]) (.agg #[.int .u64 b0, .int .u64 b1, .int .u64 b2, .int .u64 b3])).run Try.prog w = .ok (eq4 a0 a1 a2 a3 b0 b1 b2 b3) w := by
  have hu : Try.prog.underlying 33 = some (.array 4 32) := by kernel_rfl
  have hs : ∀ w, (sizeOf 32).run Try.prog w = .ok 1 w := fun w => by kernel_rfl
  have he : ∀ (a b : Int) w, (Op.equalIn 9999 32 (.int .u64 a) (.int .u64 b)).run Try.prog w = .ok (a == b) w := fun a b w => run_equalIn_int w 9998 _ .u64 .u64 a b (by kernel_rfl)
  have hp : ∀ (c : Array Value) (i : Nat) (v : Value) w, c[i]? = some v → (part 32 c i).run Try.prog w = .ok v w := by
    intro c i v w h
    have ha : (isAgg 32).run Try.prog w = .ok false w := by kernel_rfl
    unfold part
    simp [Sem.run_bind, ha, h]
  show (Op.equalIn (9999 + 1) _ _ _).run _ _ = _
  unfold Op.equalIn
  simp only [Sem.run_bind, run_underlying hu, Result.andThen_ok, hs]
  simp [List.range', he, hp, Sem.run_bind]
  unfold eq4
  by_cases h0 : a0 = b0 <;> by_cases h1 : a1 = b1 <;> by_cases h2 : a2 = b2 <;> by_cases h3 : a3 = b3 <;> simp [h0, h1, h2, h3]
@[go_sem] theorem run_arrayAt4 (a : Option Addr) (c : Nat) (w : World) : (Instr.arrayAt 33 (.slice a 4 c)).run Try.prog w = .ok (.pointer a) w := by
  have hu : Try.prog.underlying 33 = some (.array 4 32) := by kernel_rfl
  unfold Instr.arrayAt
  simp only [Sem.run_bind, run_underlying hu, Result.andThen_ok]
  rfl
@[go_sem] theorem run_arrayAtI (a : Option Addr) (c : Nat) (w : World) : (Instr.arrayAt 34 (.slice a 4 c)).run Try.prog w = .ok (.pointer a) w := by
  have hu : Try.prog.underlying 34 = some (.array 4 32) := by kernel_rfl
  unfold Instr.arrayAt
  simp only [Sem.run_bind, run_underlying hu, Result.andThen_ok]
  rfl
theorem signedk_is (x : Int) (b k : Bool) (hk : sgB x b = k) (w : World) :
    Calls Try.prog 79 #[wI x, .bool b] w fun e w' => e = .returned (.tuple #[wI (bif k then sgV x b else 0), .bool k]) ∧ Below w.heap.size w w' := hk ▸ signed_any x b w
theorem below_of_eq {w w' : World} (h : w = w') : Below w.heap.size w w' := h ▸ Below.refl _ _
theorem add64_0 {l o l1 m1 : Int} (hl : Wd l) (ho : Wd o) (h1 : l1 = (l + o) % 18446744073709551616) (h2 : m1 = (l + o) / 18446744073709551616) (w : World) : (callFunc 78 #[.int .u64 l, .int .u64 o, .int .u64 0]).run Try.prog w = .ok (.value (.tuple #[.int .u64 l1, .int .u64 m1])) w := by
  rw [add64 l o 0 hl ho (by decide) (by decide), Int.add_zero, ← h1, ← h2]

set_option maxRecDepth 100000 in
set_option maxHeartbeats 4000000 in
theorem Mul_go (a b : Int) (w : World) (u : Bool) (hu : (ng a == ng b) = !u) (P : Int) (hP : sz a % b256 * (sz b % b256) = P) (z : Bool) (hz : decide (P < b256) = z) (s : Bool) (hs : sgB P u = s) :
    Calls Try.prog 54 #[wI a, wI b] w fun e w' => e = .returned (.tuple #[wI (bif z && s then sgV P u else 0), .bool (z && s)]) ∧ Below w.heap.size w w' := by
 have HU := Lib.hid hu; have HP := Lib.hid hP; have HZ := Lib.hid hz; have HS := Lib.hid hs; clear hu hP hz hs
 go_enter Try.func54, Try.ntmps54
 go_wp2_with fail
 refine name_world ?_
 intro W hW
 have ka : Var W w.heap.size a := by rw [hW]; exact ((Blk.new _ _ _).alloc _).alloc _
 have kb : Var W (w.heap.size + 1) b := by rw [hW]; exact (Blk.new1 _ _ _ _).alloc _
 have k0 : Var W (w.heap.size + 1 + 1) 0 := by rw [hW]; exact Blk.new2 _ _ _ _ _
 have hb0 : Below w.heap.size w W := by rw [hW]; exact (((Below.refl _ _).alloc (Nat.le_refl _) _).alloc (by simp) _).alloc (by simp; omega) _
 clear hW; have ca := Var.c ka; have cb := Var.c kb; have la := ka.lt; have lb := kb.lt; have KA := Lib.hid ka; have KB := Lib.hid kb; have K0 := Lib.hid k0; clear ka kb k0
 refine wp_region_FG2 6 4 5 [(0, 0), (0, 2), (1, 1), (1, 3)] [(3, 6), (3, 7)] (by kernel_rfl) (by kernel_rfl) (fun _ _ d _ _ => by cases d <;> exact Iff.rfl) rfl rfl rfl allocI rfl rfl rfl allocI rfl ?_
 have hb : Below W.heap.size W W.drew := (Below.refl _ _).drew
 iterate 2
  refine wpFG_take0 rfl rfl ?_
  go_big_quiet_step (rfl)
  refine wpQuiet_nil ?_
 refine wpFG_do rfl ?_
 intro w1 hg K hK
 replace hb := hb.trans (hg.mono hb.size)
 clear hg
 go_wp2_with ((go_at_call 76; refine (size_any _ _).mono ?_; rintro e w2 ⟨rfl, hn⟩))
 refine hK.out _ _ hn ?_
 replace hb := hb.trans (hn.mono hb.size)
 clear hK K; clear hn
 refine wpFG_do rfl ?_
 intro w1 hg K hK
 replace hb := hb.trans (hg.mono hb.size)
 clear hg
 go_wp2_with ((go_at_call 76; refine (size_any _ _).mono ?_; rintro e w2 ⟨rfl, hn⟩))
 refine hK.out _ _ hn ?_
 replace hb := hb.trans (hn.mono hb.size)
 clear hK K; clear hn
 refine wpFG_nil ?_
 clear hb
 intro w1 hg hb b1 b2 hne lb1 nb1 lb2 nb2
 clear hg
 simp only [Act.put, ptrTo, List.setIfInBounds_toArray, List.set_cons_succ, List.set_cons_zero]
 have c1 := Var.c (show Var w1 b1 0 from nb1)
 have f1 := Var.f (show Var w1 b1 0 from nb1)
 have c2 := Var.c (show Var w1 b2 0 from nb2)
 have f2 := Var.f (show Var w1 b2 0 from nb2)
 clear ca cb la lb
 refine wpG_do3 rfl ?_
 intro K hK
 go_wp2_with (fail)
 refine hK.out _ _ ?_
 clear hK K
 refine wpG_do3 rfl ?_
 intro K hK
 go_wp2_with (fail)
 refine hK.out _ _ ?_
 clear hK K
 refine wpG_nil ?_
 refine list_world ?_
 intro V hV
 have g1 : Var w1 b1 0 := nb1; have g2 : Var w1 b2 0 := nb2; have h12 : b1 ≠ b2 := hne
 have na : w.heap.size ≠ b1 ∧ w.heap.size ≠ b2 := by have := KA.out.lt; omega
 have nb : w.heap.size + 1 ≠ b1 ∧ w.heap.size + 1 ≠ b2 := by have := KB.out.lt; omega
 have n0 : w.heap.size + 1 + 1 ≠ b1 ∧ w.heap.size + 1 + 1 ≠ b2 := by have := K0.out.lt; omega
 have hge1 : w.heap.size ≤ b1 := Nat.le_trans hb0.size lb1; have hge2 : w.heap.size ≤ b2 := Nat.le_trans hb0.size lb2
 have kx : Var V b1 (sz a) := by rw [hV]; exact Blk.set4 (Var.put4 g1 _) h12 _ _ _ _
 have ky : Var V b2 (sz b) := by rw [hV]; exact Var.put4 (Blk.set4 g2 h12.symm _ _ _ _) _
 have ka : Var V w.heap.size a := by rw [hV]; exact Blk.set4 (Blk.set4 (KA.out.of hb) na.1 _ _ _ _) na.2 _ _ _ _
 have kb : Var V (w.heap.size + 1) b := by rw [hV]; exact Blk.set4 (Blk.set4 (KB.out.of hb) nb.1 _ _ _ _) nb.2 _ _ _ _
 have k0 : Var V (w.heap.size + 1 + 1) 0 := by rw [hV]; exact Blk.set4 (Blk.set4 (K0.out.of hb) n0.1 _ _ _ _) n0.2 _ _ _ _
 have hbV : Below w.heap.size w V := by rw [hV]; exact below_set4 (below_set4 (hb0.trans (hb.mono hb0.size)) hge1 _ _ _ _) hge2 _ _ _ _
 clear hV g1 g2 nb1 nb2 c1 f1 c2 f2 lb1 lb2 hb KA KB K0 hb0 na nb n0 hge1 hge2 h12 hne
 go_wp2_with fail
 refine name_world ?_
 intro W hW
 have hd0 : MulW w a b b1 b2 V.heap.size (List.replicate 8 0) W := by
  rw [hW]
  exact ⟨ka.alloc _, kb.alloc _, k0.alloc _, kx.alloc _, ky.alloc _, Blk.new _ _ _, rfl, kx.lt, ky.lt, k0.lt, hbV.alloc hbV.size _⟩
 clear hW ka kb k0 kx ky hbV
 obtain ⟨b3, hb3⟩ : ∃ b3, b3 = V.heap.size := ⟨_, rfl⟩
 rw [← hb3] at hd0 ⊢
 clear hb3 V
 go_loopw [19] (fun i wr => ∃ (k : Nat) (out : List Int), k ≤ 4 ∧ i = .int .i64 k ∧ Hid (Prw (ws4 (sz a)) (ws4 (sz b)) 8 k 0 out 0) ∧ MulW w a b b1 b2 b3 out wr) (fun i _ => 4 - (intOf i).toNat)
 case atStart => exact ⟨0, _, Nat.zero_le _, rfl, Prw.zero _ _ _, hd0⟩
 case round =>
  clear hd0 W
  rename World => wr
  obtain ⟨i, out, hi, rfl, hp, hd⟩ := hrel
  by_cases h1 : i < 4
  ·have ha4 : (i : Int) < 4 := by omega
   have HD := Lib.hid hd; clear hd
   go_wp2_with fail
   obtain ⟨wo, rfl⟩ : ∃ wo : World, wo = wr := ⟨_, rfl⟩
   have hd := HD.out; clear HD
   go_loopw [10, 22] (fun c k wr => ∃ (j : Nat) (cv : Int) (out : List Int), j ≤ 4 ∧ k = .int .i64 j ∧ c = .int .u64 cv ∧ Hid (Prw (ws4 (sz a)) (ws4 (sz b)) 8 i j out cv) ∧ MulW w a b b1 b2 b3 out wr) (fun _ k _ => 4 - (intOf k).toNat)
   case atStart => exact ⟨0, 0, out, Nat.zero_le _, rfl, rfl, hp, hd⟩
   case round =>
    clear hd hp
    rename World => wi
    obtain ⟨j, cv, out, hj, rfl, rfl, hp, hd⟩ := hrel
    by_cases h2 : j < 4
    ·obtain ⟨x, hx⟩ : ∃ x, x = (ws4 (sz a)).getD i 0 := ⟨_, rfl⟩
     obtain ⟨y, hy⟩ : ∃ y, y = (ws4 (sz b)).getD j 0 := ⟨_, rfl⟩
     obtain ⟨o, ho⟩ : ∃ o, o = out.getD (i + j) 0 := ⟨_, rfl⟩
     have hst := hp.out.step (ws4_ok _) (ws4_ok _) (show j < 4 from h2) (show i + 4 ≤ 8 by omega) hx hy ho
     have wx : Wd x := hx ▸ (ws4_ok _).get i
     have wy : Wd y := hy ▸ (ws4_ok _).get j
     have wo' : Wd o := ho ▸ hp.out.ok.get _
     have wc := hp.out.cw
     obtain ⟨m0, m1, m2, m3, m4, m5, m6, m7, m8⟩ := mul_step wx wy wo' wc
     have c1 := hd.kx.at h1; have c2 := hd.ky.at h2
     have c3 := hd.outc (j := i + j) (by omega)
     rw [← hx] at c1
     rw [← hy] at c2
     rw [← ho] at c3
     obtain ⟨hi', hhi⟩ : ∃ h, h = x * y / 18446744073709551616 := ⟨_, rfl⟩
     obtain ⟨l, hl⟩ : ∃ h, h = x * y % 18446744073709551616 := ⟨_, rfl⟩
     rw [← hl] at m1 m2 m3 m4 m5 m6
     rw [← hhi] at m0 m4 m6
     obtain ⟨l1, hl1⟩ : ∃ h, h = (l + o) % 18446744073709551616 := ⟨_, rfl⟩
     obtain ⟨mo, hmo⟩ : ∃ h, h = (l + o) / 18446744073709551616 := ⟨_, rfl⟩
     have A1 := fun w => add64_0 m1 wo' hl1 hmo w
     rw [← hl1] at m3 m5 m6
     rw [← hmo] at m2 m4 m6
     obtain ⟨l2, hl2⟩ : ∃ h, h = (l1 + cv) % 18446744073709551616 := ⟨_, rfl⟩
     obtain ⟨mp, hmp⟩ : ∃ h, h = (l1 + cv) / 18446744073709551616 := ⟨_, rfl⟩
     have A2 := fun w => add64_0 m3 wc hl2 hmp w
     rw [← hl2] at m5
     rw [← hmp] at m6
     obtain ⟨h1', hh1⟩ : ∃ h, h = hi' + mo := ⟨_, rfl⟩
     obtain ⟨h2', hh2⟩ : ∃ h, h = h1' + mp := ⟨_, rfl⟩
     rw [← hh1] at m4 m6
     rw [← hh2] at m6
     rw [← m6, ← m5] at hst
     rw [← m6] at m7
     have W1 : IntKind.u64.wrap (hi' + mo) = h1' := by rw [← hh1]; exact IntWalk.u64_in _ (by have := m4.lo; have := m4.hi; omega)
     have W2 : IntKind.u64.wrap (h1' + mp) = h2' := by rw [← hh2]; exact IntWalk.u64_in _ (by have := m7.lo; have := m7.hi; omega)
     have TM := fun w => mul64_any x y wx wy w
     rw [← hhi, ← hl] at TM
     have HM := Lib.hid TM; have OE := Lib.hid ho.symm; have ST := Lib.hid hst; have lx := hd.kx.lt; have ly := hd.ky.lt; have HD := Lib.hid hd; clear hst hx hy ho wx wy wo' wc m0 m1 m2 m3 m4 m5 m6 m7 m8 hhi hl hl1 hmo hl2 hmp hh1 hh2 TM hd hp
     go_wp2_with fail
     have hb4 : (j : Int) < 4 := by omega
     refine wp_region_up wi.heap.size 11 [(true, 0), (true, 1), (true, 2), (true, 3), (true, 4), (true, 5), (false, 6), (true, 7), (true, 8), (true, 9), (true, 10)] (by kernel_rfl) (by kernel_rfl) (fun _ _ d _ _ h => by cases d <;> exact h) ?_
     have hb : Below wi.heap.size wi wi.drew := (Below.refl _ _).drew
     iterate 6
      refine wpS_takeL rfl rfl ?_
      go_big_quiet_step (rfl)
      refine wpQuiet_nil ?_
     refine wpS_doL rfl ?_
     intro K hK
     go_wp2_with ((go_at_call 77; refine (HM.out _).mono ?_; rintro e w2 ⟨rfl, hw⟩; have hn := below_of_eq hw))
     replace hb := hb.trans (hn.mono hb.size)
     refine hK.out _ _ (up_iff.2 hb) ?_
     clear hK K; clear hn
     iterate 4
      refine wpS_takeL rfl rfl ?_
      go_big_quiet_step (rfl)
      refine wpQuiet_nil ?_
     refine wpS_nil ?_
     simp only [List.drop_succ_cons, List.drop_zero]
     have hd := HD.out.of hb; clear c1 c2 c3 HM hb HD lx ly
     have c3 := hd.outc (j := i + j) (by omega)
     rw [OE.out] at c3
     have f3 := hd.ko.free (i + j)
     have HD := Lib.hid hd; clear hd
     go_wp2
     go_roundw
     case rel => exact ⟨j + 1, h2', _, by omega, by go_num, rfl, ST.out, HD.out.put _ _⟩
     case measure => simp [intOf]; omega
    ·have hj4 : j = 4 := by omega
     subst hj4
     have hst := hp.out.row (show i + 4 < 8 by omega)
     have c3 := hd.outc (j := i + 4) (by omega)
     have f3 := hd.ko.free (i + 4)
     have ST := Lib.hid hst; have HD := Lib.hid hd; clear hst hp hd
     go_wp2
     go_roundw
     case rel => exact ⟨i + 1, _, by omega, by go_num, ST.out, HD.out.put _ _⟩
     case measure => simp [intOf]; omega
  ·have hi4 : i = 4 := by omega
   subst hi4
   obtain ⟨p1, p2⟩ := hp.out.all rfl
   rw [uval_ws4, uval_ws4, HP.out] at p2
   have hlen := hd.len
   match out, hlen with
   | [o0, o1, o2, o3, o4, o5, o6, o7], _ =>
    obtain ⟨e1, e2⟩ := eight p1 p2
    rw [HZ.out] at e1
    have kc := hd.ko
    have co : (wr.cell? ⟨b3, 0, none⟩ = some (.int .u64 o0) ∧ wr.cell? ⟨b3, 1, none⟩ = some (.int .u64 o1) ∧ wr.cell? ⟨b3, 2, none⟩ = some (.int .u64 o2) ∧ wr.cell? ⟨b3, 3, none⟩ = some (.int .u64 o3)) ∧ (wr.cell? ⟨b3, 4, none⟩ = some (.int .u64 o4) ∧ wr.cell? ⟨b3, 5, none⟩ = some (.int .u64 o5) ∧ wr.cell? ⟨b3, 6, none⟩ = some (.int .u64 o6) ∧ wr.cell? ⟨b3, 7, none⟩ = some (.int .u64 o7)) := ⟨⟨kc.cell 0, kc.cell 1, kc.cell 2, kc.cell 3⟩, kc.cell 4, kc.cell 5, kc.cell 6, kc.cell 7⟩
    have E2 := Lib.hid e2; have HD := Lib.hid hd; clear p1 p2 hp kc e2 hd
    cases z
    ·have k0 := HD.out.k0
     have c0 := Var.c k0; have f0 := Var.f k0
     go_wp2
     refine post_world ?_
     intro Wf hWf
     have kf : Var Wf (w.heap.size + 1 + 1) 0 := by rw [hWf]; exact Var.put4 k0 0
     have hbf : Below w.heap.size w Wf := by rw [hWf]; exact below_set4 HD.out.below (by omega) _ _ _ _
     have c := Var.c kf; clear hWf c0 f0 co
     simp [bodyPost, results, Try.results54, go_sem, c]
     exact hbf
    ·have hP : P < b256 := of_decide_eq_true HZ.out
     obtain ⟨q0, q1, q2, q3⟩ := E2.out hP
     subst q0; subst q1; subst q2; subst q3; clear hP E2
     go_wp2_with fail
     have ca := Var.c HD.out.ka; have cb := Var.c HD.out.kb; have la := HD.out.ka.lt; have lb := HD.out.kb.lt; have lo := HD.out.ko.lt; have hu := HU.out; have co1 := co.1; clear co
     refine wp_region_up wr.heap.size 11 [(true, 0), (true, 1), (true, 2), (true, 3), (true, 5), (false, 4), (false, 6), (true, 7), (false, 8), (true, 9), (true, 10)] (by kernel_rfl) (by kernel_rfl) (fun _ _ d _ _ h => by cases d <;> exact h) ?_
     have hb : Below wr.heap.size wr wr.drew := (Below.refl _ _).drew
     iterate 5
      refine wpS_takeL rfl rfl ?_
      go_big_quiet_step (rfl)
      refine wpQuiet_nil ?_
     refine wpS_doL rfl ?_
     intro K hK
     go_wp2_with ((first | (go_at_call 55; refine (negative_any _ _).mono ?_; rintro e w2 ⟨rfl, hn⟩) | (go_at_call 79; refine (signedk_is P u s HS.out _).mono ?_; rintro e w3 ⟨rfl, hn⟩)))
     replace hb := hb.trans (hn.mono hb.size)
     refine hK.out _ _ (up_iff.2 hb) ?_
     clear hK K; clear hn
     refine wpS_doL rfl ?_
     intro K hK
     go_wp2_with ((first | (go_at_call 55; refine (negative_any _ _).mono ?_; rintro e w2 ⟨rfl, hn⟩) | (go_at_call 79; refine (signedk_is P u s HS.out _).mono ?_; rintro e w3 ⟨rfl, hn⟩)))
     replace hb := hb.trans (hn.mono hb.size)
     refine hK.out _ _ (up_iff.2 hb) ?_
     clear hK K; clear hn
     refine wpS_takeL rfl rfl ?_
     go_big_quiet_step (rfl)
     refine wpQuiet_nil ?_
     refine wpS_doL rfl ?_
     intro K hK
     go_wp2_with ((first | (go_at_call 55; refine (negative_any _ _).mono ?_; rintro e w2 ⟨rfl, hn⟩) | (go_at_call 79; refine (signedk_is P u s HS.out _).mono ?_; rintro e w3 ⟨rfl, hn⟩)))
     replace hb := hb.trans (hn.mono hb.size)
     refine hK.out _ _ (up_iff.2 hb) ?_
     clear hK K; clear hn
     iterate 2
      refine wpS_takeL rfl rfl ?_
      go_big_quiet_step (rfl)
      refine wpQuiet_nil ?_
     refine wpS_nil ?_
     simp only [List.drop_succ_cons, List.drop_zero]
     have k0 : Var w3 (w.heap.size + 1 + 1) 0 := HD.out.k0.of hb
     have hbb := HD.out.below.trans (hb.mono HD.out.below.size)
     clear ca cb la lb lo hu co1 hb HD; have c0 := Var.c k0; have f0 := Var.f k0; have K0 := Lib.hid k0; clear k0
     go_wp2
     refine post_world ?_
     intro Wf hWf
     have kf : Var Wf (w.heap.size + 1 + 1) (bif s then sgV P u else 0) := by rw [hWf]; exact Var.put4 K0.out _
     have hbf : Below w.heap.size w Wf := by rw [hWf]; exact below_set4 hbb (by omega) _ _ _ _
     have c := Var.c kf; clear hWf c0 f0
     simp [bodyPost, results, Try.results54, go_sem, c]
     exact hbf

theorem mul_spec {a b : Int} (ia : InI a) (ib : InI b) (u : Bool) (hu : (ng a != ng b) = u) (P : Int) (hP : sz a * sz b = P) :
    (decide (P < b256) && sgB P u) = okI (a * b) ∧ (bif u then -P else P) = a * b ∧ 0 ≤ P := by
  have ha := sz_in ia; have hb := sz_in ib; have na := ng_in ia; have nb := ng_in ib
  have hp0 : 0 ≤ P := by rw [← hP, ha, hb]; exact Int.mul_nonneg (by omega) (by omega)
  have hv : (bif u then -P else P) = a * b := by
    rw [← hu, ← hP, ha, hb, na, nb]
    rcases Int.lt_or_le a 0 with h1 | h1 <;> rcases Int.lt_or_le b 0 with h2 | h2
    · rw [Int.ofNat_natAbs_of_nonpos (by omega), Int.ofNat_natAbs_of_nonpos (by omega)]; simp [h1, h2, Int.neg_mul_neg]
    · rw [Int.ofNat_natAbs_of_nonpos (by omega), Int.natAbs_of_nonneg h2]; simp [h1, Int.not_lt.2 h2, Int.neg_mul]
    · rw [Int.natAbs_of_nonneg h1, Int.ofNat_natAbs_of_nonpos (by omega)]; simp [h2, Int.not_lt.2 h1, Int.mul_neg]
    · rw [Int.natAbs_of_nonneg h1, Int.natAbs_of_nonneg h2]; simp [Int.not_lt.2 h1, Int.not_lt.2 h2]
  refine ⟨?_, hv, hp0⟩
  rw [← hv]
  rw [Bool.eq_iff_iff]
  unfold okI
  rw [Bool.and_eq_true, decide_eq_true_iff, decide_eq_true_iff]
  unfold sgB InI
  cases u
  · rw [cond_false, cond_false, Bool.not_eq_true', ← Bool.not_eq_true, ng_iff]
    unfold b255 b256 at *; omega
  · rw [cond_true, cond_true, Bool.or_eq_true, ng_iff, eq4_0, decide_eq_true_iff]
    unfold b255 b256 at *; omega

theorem Mul_ok (x y : Int) (w : World) (ix : InI x) (iy : InI y) : Calls Try.prog 54 #[wI x, wI y] w fun e w' => e = .returned (.tuple #[wI (bif okI (x * y) then x * y else 0), .bool (okI (x * y))]) ∧ Below w.heap.size w w' := by
  obtain ⟨u, hu⟩ : ∃ u, (ng x != ng y) = u := ⟨_, rfl⟩
  obtain ⟨P, hP⟩ : ∃ P, sz x * sz y = P := ⟨_, rfl⟩
  obtain ⟨h1, h2, h3⟩ := mul_spec ix iy u hu P hP
  have b1 := sz_bd ix; have b2 := sz_bd iy
  have e1 : sz x % b256 = sz x := Int.emod_eq_of_lt b1.1 (by unfold b255 b256 at *; omega)
  have e2 : sz y % b256 = sz y := Int.emod_eq_of_lt b2.1 (by unfold b255 b256 at *; omega)
  have T := Mul_go x y w u (by rw [← hu]; cases ng x <;> cases ng y <;> rfl) P (by rw [e1, e2]; exact hP) _ rfl _ rfl
  rw [h1] at T
  unfold sgV at T
  rw [h2] at T
  exact T
theorem Mul_is (x y : Int) (o : Bool) (ho : okI (x * y) = o) (p : Int) (hp : (bif o then x * y else 0) = p) (w : World) (ix : InI x) (iy : InI y) :
    Calls Try.prog 54 #[wI x, wI y] w fun e w' => e = .returned (.tuple #[wI p, .bool o]) ∧ Below w.heap.size w w' := by
  subst ho; subst hp; exact Mul_ok x y w ix iy
theorem Add_is (x y : Int) (o : Bool) (ho : okI (x + y) = o) (p : Int) (hp : (bif o then x + y else 0) = p) (w : World) (ix : InI x) (iy : InI y) :
    Calls Try.prog 100 #[wI x, wI y] w fun e w' => e = .returned (.tuple #[wI p, .bool o]) ∧ Below w.heap.size w w' := by
  subst ho; subst hp; exact Add_ok x y w ix iy
theorem Sub_is (x y : Int) (o : Bool) (ho : okI (x - y) = o) (p : Int) (hp : (bif o then x - y else 0) = p) (w : World) (ix : InI x) (iy : InI y) :
    Calls Try.prog 75 #[wI x, wI y] w fun e w' => e = .returned (.tuple #[wI p, .bool o]) ∧ Below w.heap.size w w' := by
  subst ho; subst hp; exact Sub_ok x y w ix iy
end Go.Proofs.Ytkaolhlmimalkaa
namespace Go.Proofs.Ytkaolhlmimalkaa
open Go.RowKit

/-- the Go value of a point -/
abbrev pC (x y : Int) : Array Value := #[.int .i64 x, .int .i64 y]
abbrev pI (x y : Int) : Value := .agg (pC x y)
/-- may a number be a coordinate? -/
def inC (x : Int) : Bool := decide (-2199023255552 ≤ x) && decide (x ≤ 2199023255552)

theorem within_any (x : Int) (w : World) : Calls Try.prog 57 #[.int .i64 x] w fun e w' => e = .returned (.bool (inC x)) ∧ Below w.heap.size w w' := by
  unfold inC
  by_cases h : -2199023255552 ≤ x <;> by_cases h2 : x ≤ 2199023255552
  all_goals
    go_enter Try.func57, Try.ntmps57
    go_wp2
    go_ret
    exact ⟨by simp [h, h2], Below.refl _ _⟩

set_option maxRecDepth 100000 in
set_option maxHeartbeats 1000000 in
theorem pttimes_any (x y : Int) (o : Bool) (ho : okI (x * y) = o) (p : Int) (hp : (bif o then x * y else 0) = p) (w : World) (ix : InI x) (iy : InI y) :
    Calls Try.prog 99 #[wI x, wI y] w fun e w' => e = .returned (wI p) ∧ Below w.heap.size w w' := by
  go_enter Try.func99, Try.ntmps99
  go_wp2_with fail
  refine calls_w ?_
  intro W hW
  have kz : Var W (w.heap.size + 1 + 1) 0 := by rw [hW]; exact Blk.new2 _ _ _ _ _
  have hb0 : Below w.heap.size w W := by rw [hW]; exact below_a3 _ _ _ _
  clear hW
  refine (Mul_is x y o ho p hp _ ix iy).mono ?_
  rintro e u1 ⟨rfl, hn⟩
  replace kz : Var u1 _ _ := kz.of hn
  replace hb0 := hb0.trans (hn.mono hb0.size)
  clear hn; have cz := Var.c kz; have fz := Var.f kz; have lz := kz.lt; have KZ := Lib.hid kz; clear kz
  go_wp2
  refine post_world ?_
  intro Wf hWf
  have kf : Var Wf (w.heap.size + 1 + 1) p := by rw [hWf]; exact (Var.put4 KZ.out p).alloc _
  have hbf : Below w.heap.size w Wf := by rw [hWf]; exact (below_set4 hb0 (by omega) (.int .u64 (wd0 p)) (.int .u64 (wd1 p)) (.int .u64 (wd2 p)) (.int .u64 (wd3 p))).alloc (by simp only [size_set]; exact hb0.size) _
  have c := Var.c kf; clear hWf cz
  simp [bodyPost, results, Try.results99, go_sem, c]
  exact hbf
set_option maxRecDepth 100000 in
set_option maxHeartbeats 1000000 in
theorem ptless_any (x y : Int) (o : Bool) (ho : okI (x - y) = o) (p : Int) (hp : (bif o then x - y else 0) = p) (w : World) (ix : InI x) (iy : InI y) :
    Calls Try.prog 98 #[wI x, wI y] w fun e w' => e = .returned (wI p) ∧ Below w.heap.size w w' := by
  go_enter Try.func98, Try.ntmps98
  go_wp2_with fail
  refine calls_w ?_
  intro W hW
  have kz : Var W (w.heap.size + 1 + 1) 0 := by rw [hW]; exact Blk.new2 _ _ _ _ _
  have hb0 : Below w.heap.size w W := by rw [hW]; exact below_a3 _ _ _ _
  clear hW
  refine (Sub_is x y o ho p hp _ ix iy).mono ?_
  rintro e u1 ⟨rfl, hn⟩
  replace kz : Var u1 _ _ := kz.of hn
  replace hb0 := hb0.trans (hn.mono hb0.size)
  clear hn; have cz := Var.c kz; have fz := Var.f kz; have lz := kz.lt; have KZ := Lib.hid kz; clear kz
  go_wp2
  refine post_world ?_
  intro Wf hWf
  have kf : Var Wf (w.heap.size + 1 + 1) p := by rw [hWf]; exact (Var.put4 KZ.out p).alloc _
  have hbf : Below w.heap.size w Wf := by rw [hWf]; exact (below_set4 hb0 (by omega) (.int .u64 (wd0 p)) (.int .u64 (wd1 p)) (.int .u64 (wd2 p)) (.int .u64 (wd3 p))).alloc (by simp only [size_set]; exact hb0.size) _
  have c := Var.c kf; clear hWf cz
  simp [bodyPost, results, Try.results98, go_sem, c]
  exact hbf
set_option maxRecDepth 100000 in
set_option maxHeartbeats 1000000 in
theorem PtRight_any (x y : Int) (w : World) : Calls Try.prog 26 #[pI x y] w fun e w' => e = .returned (.bool (inC x && inC y)) ∧ Below w.heap.size w w' := by
  obtain ⟨bx, hbx⟩ : ∃ b, inC x = b := ⟨_, rfl⟩
  obtain ⟨by', hby⟩ : ∃ b, inC y = b := ⟨_, rfl⟩
  rw [hbx, hby]
  have HX := Lib.hid hbx; have HY := Lib.hid hby; clear hbx hby
  go_enter Try.func26, Try.ntmps26
  go_wp2_with fail
  refine (within_any x _).mono ?_
  rintro e w2 ⟨rfl, hn⟩
  rw [HX.out]
  have kp : Blk w2 w.heap.size (pC x y) 44 := (Blk.new w _ _).of hn
  have hb0 := (below_a1 w _).trans (hn.mono (by simp))
  have c0 := kp.cell 0; have c1 := kp.cell 1; have l0 := kp.lt; clear kp
  cases bx
  · go_wp2
    go_ret
    exact ⟨rfl, hb0⟩
  · go_wp2_with fail
    refine (within_any y _).mono ?_
    rintro e w3 ⟨rfl, hn3⟩
    rw [HY.out]
    go_wp2
    go_ret
    exact ⟨by simp, hb0.trans (hn3.mono hb0.size)⟩
end Go.Proofs.Ytkaolhlmimalkaa

