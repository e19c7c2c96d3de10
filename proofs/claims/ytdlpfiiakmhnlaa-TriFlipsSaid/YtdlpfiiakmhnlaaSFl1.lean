/- My texts Bs1, Bs2, Bs3, Bs4, Bs5, joined: what the last one needs of them. Conditions: as each lemma says. -/
import Derived.KernelRfl
import Derived.StillTail
import Derived.OrdersHeld
import Derived.Deep.Quiet
import Derived.Below
import Derived.WalkKit
import Derived.Test.YtdlpfiiakmhnlaaProg
import Derived.WalkSpells
import Derived.StillTactics
import Derived.Laws.Pointers
import Derived.Deep.RegionHeld3
import Derived.RowKit3
import Derived.Deep.QuietTactic
import Derived.BigQuiet
import Derived.BigRegion
import Derived.Lib.Hide
import Derived.WalkSmall
import Derived.Laws.BitsAllLaws
import Derived.IntWalk
import Derived.Deep.OwnRows
import Derived.Deep.LoopGhost
import Derived.Shelf.Bits.Mul64
import Derived.ProofKit
import Derived.OpenShut
import Derived.ShutString
import Derived.ChangeOld
import Derived.Lib.SmallJoins
import Derived.Laws.IdiomArrays
import Derived.Laws.CopyOwn
import Derived.Laws.AppendOwn
import Derived.Deep.DeepAppendRoom
import Derived.Lib.AppendZerosOnto
import Derived.Lib.Overlaps
import Derived.Deep.RegionLaw
import Derived.Shelf.RegionOpenPlain
import Derived.Deep.RegionWith
import Derived.Sort.LoopGhostIn
import Derived.RangeFuncNested
import Derived.RangeFuncBound
import Derived.RangeFuncCalls
import Derived.RangeFuncLeaves
import Derived.OwnWalk
import Derived.OwnWalkIn
import Derived.TacticsInMore
import Derived.LoopNIn
import Derived.LoopIn
import Derived.Deep.DeepFit
import Derived.Deep.DeepCutAuto
import Derived.Shelf.Abstract
import Derived.Shelf.RegionOpen
import Derived.Maps.OwnIn
import Derived.WalkMore
import Derived.Deep.SlicePairs
namespace Go.Proofs.Ytdlpfiiakmhnlaa

/-- 2^64, 2^128, 2^192, 2^256 and 2^255, 2^63 behind names. -/
def b64 : Int := 18446744073709551616
def b128 : Int := 340282366920938463463374607431768211456
def b192 : Int := 6277101735386680763835789423207666416102355444464034512896
def b256 : Int := 115792089237316195423570985008687907853269984665640564039457584007913129639936
def b255 : Int := 57896044618658097711785492504343953926634992332820282019728792003956564819968
/-- the words of a number, in two's complement of any length -/
def wd0 (x : Int) : Int := x % b64
def wd1 (x : Int) : Int := x / b64 % b64
def wd2 (x : Int) : Int := x / b128 % b64
def wd3 (x : Int) : Int := x / b192 % b64
/-- what four words are, without a sign -/
def un4 (a b c d : Int) : Int := a + b * b64 + c * b128 + d * b192

/-- a word -/
structure Wd (x : Int) : Prop where
  lo : 0 ≤ x
  hi : x < 18446744073709551616

theorem wd0_Wd (x : Int) : Wd (wd0 x) := by unfold wd0 b64; constructor <;> omega
theorem wd1_Wd (x : Int) : Wd (wd1 x) := by unfold wd1 b64; constructor <;> omega
theorem wd2_Wd (x : Int) : Wd (wd2 x) := by unfold wd2 b64 b128; constructor <;> omega
theorem wd3_Wd (x : Int) : Wd (wd3 x) := by unfold wd3 b64 b192; constructor <;> omega

theorem un4_wd (x : Int) : un4 (wd0 x) (wd1 x) (wd2 x) (wd3 x) = x % b256 := by
  unfold un4 wd0 wd1 wd2 wd3 b64 b128 b192 b256; omega

theorem wd0_un4 {a b c d : Int} (ha : Wd a) : wd0 (un4 a b c d) = a := by
  obtain ⟨h1, h2⟩ := ha; unfold wd0 un4 b64 b128 b192; omega
theorem wd1_un4 {a b c d : Int} (ha : Wd a) (hb : Wd b) : wd1 (un4 a b c d) = b := by
  obtain ⟨h1, h2⟩ := ha; obtain ⟨h3, h4⟩ := hb; unfold wd1 un4 b64 b128 b192; omega
theorem wd2_un4 {a b c d : Int} (ha : Wd a) (hb : Wd b) (hc : Wd c) : wd2 (un4 a b c d) = c := by
  obtain ⟨h1, h2⟩ := ha; obtain ⟨h3, h4⟩ := hb; obtain ⟨h5, h6⟩ := hc; unfold wd2 un4 b64 b128 b192; omega
theorem wd3_un4 {a b c d : Int} (ha : Wd a) (hb : Wd b) (hc : Wd c) (hd : Wd d) : wd3 (un4 a b c d) = d := by
  obtain ⟨h1, h2⟩ := ha; obtain ⟨h3, h4⟩ := hb; obtain ⟨h5, h6⟩ := hc; obtain ⟨h7, h8⟩ := hd; unfold wd3 un4 b64 b128 b192; omega

theorem un4_bd {a b c d : Int} (ha : Wd a) (hb : Wd b) (hc : Wd c) (hd : Wd d) : 0 ≤ un4 a b c d ∧ un4 a b c d < b256 := by
  obtain ⟨h1, h2⟩ := ha; obtain ⟨h3, h4⟩ := hb; obtain ⟨h5, h6⟩ := hc; obtain ⟨h7, h8⟩ := hd; unfold un4 b64 b128 b192 b256; omega

theorem wd0_mod (x : Int) : wd0 (x % b256) = wd0 x := by unfold wd0 b64 b256; omega
theorem wd1_mod (x : Int) : wd1 (x % b256) = wd1 x := by unfold wd1 b64 b256; omega
theorem wd2_mod (x : Int) : wd2 (x % b256) = wd2 x := by unfold wd2 b64 b128 b256; omega
theorem wd3_mod (x : Int) : wd3 (x % b256) = wd3 x := by unfold wd3 b64 b192 b256; omega

/-- two numbers have the same four words just if they are the same modulo 2^256 -/
theorem wds_eq {x y : Int} (h0 : wd0 x = wd0 y) (h1 : wd1 x = wd1 y) (h2 : wd2 x = wd2 y) (h3 : wd3 x = wd3 y) : x % b256 = y % b256 := by
  rw [← un4_wd x, ← un4_wd y, h0, h1, h2, h3]

/-- the words of a sum, as the carries make them -/
theorem plus_wd0 (x y c : Int) : wd0 (x + y + c) = (wd0 x + wd0 y + c) % 18446744073709551616 := by unfold wd0 b64; omega
theorem plus_wd1 (x y c : Int) : wd1 (x + y + c) = (wd1 x + wd1 y + (wd0 x + wd0 y + c) / 18446744073709551616) % 18446744073709551616 := by unfold wd0 wd1 b64; omega
theorem plus_wd2 (x y c : Int) : wd2 (x + y + c) = (wd2 x + wd2 y + (wd1 x + wd1 y + (wd0 x + wd0 y + c) / 18446744073709551616) / 18446744073709551616) % 18446744073709551616 := by
  have h1 : x = 340282366920938463463374607431768211456 * (x / 340282366920938463463374607431768211456) + wd1 x * 18446744073709551616 + wd0 x := by unfold wd0 wd1 b64; omega
  have h2 : y = 340282366920938463463374607431768211456 * (y / 340282366920938463463374607431768211456) + wd1 y * 18446744073709551616 + wd0 y := by unfold wd0 wd1 b64; omega
  have a0 := wd0_Wd x; have a1 := wd1_Wd x; have b0 := wd0_Wd y; have b1 := wd1_Wd y
  obtain ⟨a0, a0'⟩ := a0; obtain ⟨a1, a1'⟩ := a1; obtain ⟨b0, b0'⟩ := b0; obtain ⟨b1, b1'⟩ := b1
  have e : (x + y + c) / 340282366920938463463374607431768211456 = x / 340282366920938463463374607431768211456 + y / 340282366920938463463374607431768211456 + (wd1 x + wd1 y + (wd0 x + wd0 y + c) / 18446744073709551616) / 18446744073709551616 := by omega
  unfold wd2 b128 b64; rw [e]; omega
theorem plus_wd3 (x y c : Int) : wd3 (x + y + c) = (wd3 x + wd3 y + (wd2 x + wd2 y + (wd1 x + wd1 y + (wd0 x + wd0 y + c) / 18446744073709551616) / 18446744073709551616) / 18446744073709551616) % 18446744073709551616 := by
  have h1 : x = 6277101735386680763835789423207666416102355444464034512896 * (x / 6277101735386680763835789423207666416102355444464034512896) + wd2 x * 340282366920938463463374607431768211456 + wd1 x * 18446744073709551616 + wd0 x := by unfold wd0 wd1 wd2 b64 b128; omega
  have h2 : y = 6277101735386680763835789423207666416102355444464034512896 * (y / 6277101735386680763835789423207666416102355444464034512896) + wd2 y * 340282366920938463463374607431768211456 + wd1 y * 18446744073709551616 + wd0 y := by unfold wd0 wd1 wd2 b64 b128; omega
  have a0 := wd0_Wd x; have a1 := wd1_Wd x; have a2 := wd2_Wd x; have b0 := wd0_Wd y; have b1 := wd1_Wd y; have b2 := wd2_Wd y
  obtain ⟨a0, a0'⟩ := a0; obtain ⟨a1, a1'⟩ := a1; obtain ⟨b0, b0'⟩ := b0; obtain ⟨b1, b1'⟩ := b1; obtain ⟨a2, a2'⟩ := a2; obtain ⟨b2, b2'⟩ := b2
  have e : (x + y + c) / 6277101735386680763835789423207666416102355444464034512896 = x / 6277101735386680763835789423207666416102355444464034512896 + y / 6277101735386680763835789423207666416102355444464034512896 + (wd2 x + wd2 y + (wd1 x + wd1 y + (wd0 x + wd0 y + c) / 18446744073709551616) / 18446744073709551616) / 18446744073709551616 := by omega
  unfold wd3 b192 b64; rw [e]; omega

/-- the words of -1 - x -/
theorem not_wd0 (x : Int) : wd0 (-1 - x) = 18446744073709551615 - wd0 x := by unfold wd0 b64; omega
theorem not_wd1 (x : Int) : wd1 (-1 - x) = 18446744073709551615 - wd1 x := by unfold wd1 b64; omega
theorem not_wd2 (x : Int) : wd2 (-1 - x) = 18446744073709551615 - wd2 x := by unfold wd2 b64 b128; omega
theorem not_wd3 (x : Int) : wd3 (-1 - x) = 18446744073709551615 - wd3 x := by unfold wd3 b64 b192; omega

/-- is it below 0: the highest bit -/
def ng (x : Int) : Bool := wd3 x / 9223372036854775808 != 0
theorem ng_iff (x : Int) : ng x = true ↔ b255 ≤ x % b256 := by
  unfold ng; rw [bne_iff_ne]; unfold wd3 b64 b192 b255 b256; omega
theorem ng_of_in {x : Int} (h : -b255 ≤ x ∧ x < b255) : ng x = decide (x < 0) := by
  rw [Bool.eq_iff_iff, ng_iff, decide_eq_true_iff]; unfold b255 b256 at *; omega
theorem wd0_0 : wd0 0 = 0 := by decide
theorem wd1_0 : wd1 0 = 0 := by decide
theorem wd2_0 : wd2 0 = 0 := by decide
theorem wd3_0 : wd3 0 = 0 := by decide

/-- two values of four words are the same -/
def eq4 (a0 a1 a2 a3 b0 b1 b2 b3 : Int) : Bool := a0 == b0 && a1 == b1 && a2 == b2 && a3 == b3
theorem eq4_wd (x y : Int) : eq4 (wd0 x) (wd1 x) (wd2 x) (wd3 x) (wd0 y) (wd1 y) (wd2 y) (wd3 y) = decide (x % b256 = y % b256) := by
  rw [Bool.eq_iff_iff, decide_eq_true_iff]
  unfold eq4
  simp only [Bool.and_eq_true, beq_iff_eq]
  constructor
  · rintro ⟨⟨⟨h0, h1⟩, h2⟩, h3⟩; exact wds_eq h0 h1 h2 h3
  · intro h
    refine ⟨⟨⟨?_, ?_⟩, ?_⟩, ?_⟩
    · rw [← wd0_mod x, h, wd0_mod]
    · rw [← wd1_mod x, h, wd1_mod]
    · rw [← wd2_mod x, h, wd2_mod]
    · rw [← wd3_mod x, h, wd3_mod]
theorem eq4_0 (x : Int) : eq4 (wd0 x) (wd1 x) (wd2 x) (wd3 x) 0 0 0 0 = decide (x % b256 = 0) := by
  have := eq4_wd x 0
  rw [wd0_0, wd1_0, wd2_0, wd3_0] at this
  rw [this]; rfl
/-- the size of a number, as bits without a sign -/
def sz (x : Int) : Int := bif ng x then -x else x
/-- a number that a number of the machine may be -/
def InI (x : Int) : Prop := -b255 ≤ x ∧ x < b255
instance (x : Int) : Decidable (InI x) := by unfold InI; exact inferInstance
theorem ng_in {x : Int} (h : InI x) : ng x = decide (x < 0) := ng_of_in h
theorem sz_in {x : Int} (h : InI x) : sz x = x.natAbs := by
  unfold sz; rw [ng_in h]
  by_cases hx : x < 0 <;> simp [hx] <;> omega

/-- an int -/
def In64 (n : Int) : Prop := -9223372036854775808 ≤ n ∧ n < 9223372036854775808
theorem wd_of_nat {n : Int} (h0 : 0 ≤ n) (h1 : n < 9223372036854775808) : wd0 n = n ∧ wd1 n = 0 ∧ wd2 n = 0 ∧ wd3 n = 0 := by
  unfold wd0 wd1 wd2 wd3 b64 b128 b192; omega
theorem wd_of_neg {n : Int} (h0 : n < 0) (h1 : -9223372036854775808 ≤ n) : wd0 n = n % 18446744073709551616 ∧ wd1 n = 18446744073709551615 ∧ wd2 n = 18446744073709551615 ∧ wd3 n = 18446744073709551615 := by
  unfold wd0 wd1 wd2 wd3 b64 b128 b192; omega
end Go.Proofs.Ytdlpfiiakmhnlaa
namespace Go.Proofs.Ytdlpfiiakmhnlaa
open Go Go.RowKit

section
variable {P : Program} {ops : Array Oper} {Q : Exit → Act → World → Prop} {md : Region.Mode} {C : World → Prop}

/-- whatever order is picked for f operations more, all of them ahead of number n; behind each one the class holds; then L -/
def wpAnyHL (P : Program) (md : Region.Mode) (ops : Array Oper) (Q : Exit → Act → World → Prop) (C : World → Prop) (n : Nat) (L : Array Bool → Act → World → Prop) : Nat → Array Bool → Act → World → Prop
  | 0, listed, a, w => L listed a w
  | f + 1, listed, a, w => Region.ready md ops listed ≠ [] ∧ ∀ i ∈ Region.ready md ops listed, i < n ∧ wpOp P ops Q i (fun a' w' => C w' ∧ wpAnyHL P md ops Q C n L f (listed.setIfInBounds i true) a' w') a w

theorem wpAny_of_headH {n g : Nat} {L : Array Bool → Act → World → Prop} (hL : ∀ listed a w, L listed a w → wpAny P md ops Q g listed a w) :
    ∀ (f : Nat) (listed : Array Bool) (a : Act) (w : World), wpAnyHL P md ops Q C n L f listed a w → wpAny P md ops Q (f + g) listed a w
  | 0, listed, a, w, h => by rw [Nat.zero_add]; exact hL _ _ _ h
  | f + 1, listed, a, w, h => by
    rw [show f + 1 + g = (f + g) + 1 by omega]
    exact ⟨fun h0 => absurd h0 h.1, fun i hi => wpOp_mono (fun a' w' h' => wpAny_of_headH hL f _ a' w' h'.2) (h.2 i hi).2⟩

theorem wpAnyHL_first {n i : Nat} {oi : Oper} {v : Value} {L : Array Bool → Act → World → Prop} (hi : ops[i]? = some oi) (hsel : ∀ (j : Nat) (o : Oper) cs b, ops[j]? = some o → o.op ≠ .select cs b)
    (hQ : ∀ c a d v w, Q (.panic c) (Act.put a d v) w → Q (.panic c) a w) (hin : i < n)
    (hlt : ∀ listed, HeadInv md ops n listed → listed.getD i true = false → ∀ j ∈ Region.ready md ops listed, j < n)
    (hdone : ∀ listed a w, L listed a w → ∀ j ∈ Region.ready md ops listed, n ≤ j) :
    ∀ (f : Nat) (listed : Array Bool) (a : Act) (w : World), HeadInv md ops n listed →
      (∀ j oj, ops[j]? = some oj → j ≠ i → listed.getD j true = false → (∀ e ∈ oj.after, Region.binds md e = true → e.on ≠ i) → oi.apart ops oj = true) →
      i ∈ Region.ready md ops listed → YieldsIf P ops C oi v a → C w →
      wpAnyHL P md ops Q C n L f (listed.setIfInBounds i true) (a.put oi.dst v) w → wpAnyHL P md ops Q C n L (f + 1) listed a w := by
 intro f
 induction f with
 | zero =>
  intro listed a w inv _ hr hy hC H
  have hun := (mem_ready.1 hr).1
  refine ⟨fun h => (by rw [h] at hr; cases hr), fun j hj => ?_⟩
  have hjn : j < n := hlt listed inv hun j hj
  refine ⟨hjn, ?_⟩
  by_cases hji : j = i
  ·subst hji; exact hy.wpOp hi hC ⟨hC, H⟩
  ·have := hdone _ _ _ H j (ready_mono hj hji)
   omega
 | succ f ih =>
  intro listed a w inv hfree hr hy hC H
  have hun := (mem_ready.1 hr).1
  refine ⟨fun h => (by rw [h] at hr; cases hr), fun j hj => ?_⟩
  have hjn : j < n := hlt listed inv hun j hj
  refine ⟨hjn, ?_⟩
  by_cases hji : j = i
  ·subst hji; exact hy.wpOp hi hC ⟨hC, H⟩
  ·have h1 := (H.2 j (ready_mono hj hji)).2
   obtain ⟨hjun, oj, hoj, hall⟩ := mem_ready.1 hj
   have hnot : ∀ e ∈ oj.after, Region.binds md e = true → e.on ≠ i := fun e he hb heq => by
    have h1 := hall e he hb
    rw [heq, getD_both hun] at h1
    cases h1
   have h2 := wpOp_putIf hoj (hfree j oj hoj hji hjun hnot) (fun cs b => hsel i oi cs b hi) (fun cs b => hsel j oj cs b hoj) (fun c a w => hQ c _ _ _ w) hy h1
   have hfree' : ∀ k ok, ops[k]? = some ok → k ≠ i → (listed.setIfInBounds j true).getD k true = false →
     (∀ e ∈ ok.after, Region.binds md e = true → e.on ≠ i) → oi.apart ops ok = true := fun k ok hk hki hun hno => by
    refine hfree k ok hk hki ?_ hno
    by_cases hjk : j = k
    ·subst hjk; exact hjun
    ·rw [getD_set_ne true hjk] at hun; exact hun
   refine wpOp_mono (fun a' w' h3 => ⟨h3.2.1, ih (listed.setIfInBounds j true) a' w' (inv.set hj hjn) hfree' (ready_mono hr (Ne.symm hji)) h3.1 h3.2.1 ?_⟩) h2
   rw [Array.setIfInBounds_comm _ _ hji]
   exact h3.2.2

/-- the walk by a schedule: (true, i): number i only reads or computes; (false, i): it comes up alone -/
def wpS (P : Program) (ops : Array Oper) (C : World → Prop) (Q : Exit → Act → World → Prop) (T : Act → World → Prop) : List (Bool × Nat) → Act → World → Prop
  | [], a, w => T a w
  | (true, i) :: σ, a, w => ∃ o v, ops[i]? = some o ∧ YieldsIf P ops C o v a ∧ wpS P ops C Q T σ (a.put o.dst v) w
  | (false, i) :: σ, a, w => wpOp P ops Q i (fun a' w' => C w' ∧ wpS P ops C Q T σ a' w') a w

/-- does the schedule fit the edges? -/
def schedB (md : Region.Mode) (ops : Array Oper) (n : Nat) : List (Bool × Nat) → Array Bool → Bool
  | [], listed => Region.seqB md ops (ops.size - n) n listed
  | (true, i) :: σ, listed => decide (i < n) && (Region.ready md ops listed).contains i && Region.free md ops listed i && schedB md ops n σ (listed.setIfInBounds i true)
  | (false, i) :: σ, listed => decide (i < n) && decide (Region.ready md ops listed = [i]) && schedB md ops n σ (listed.setIfInBounds i true)

/-- no operation from n on may come up ahead of one below n -/
def headB (md : Region.Mode) (ops : Array Oper) (n : Nat) : Bool :=
  decide (n = ops.size) || (decide (n < ops.size) && Region.sinkB md ops n && Region.chainB md ops n)

theorem headB_lt {n : Nat} (h : headB md ops n = true) : ∀ listed, HeadInv md ops n listed → ∀ i, i < n → listed.getD i true = false → ∀ j ∈ Region.ready md ops listed, j < n := by
  intro listed inv i hin hun j hj
  simp only [headB, Bool.or_eq_true, Bool.and_eq_true, decide_eq_true_eq] at h
  rcases h with h | ⟨⟨hn, hs⟩, hc⟩
  · obtain ⟨_, o, ho, _⟩ := mem_ready.1 hj
    have := (Array.getElem?_eq_some_iff.1 ho).1
    omega
  · rcases Nat.lt_or_ge j n with h | h
    · exact h
    · exact absurd hj (tail_waits hs hc hn inv _ i rfl hin hun j h)

theorem wpAnyHL_of_sched {n : Nat} {T : Act → World → Prop} (hsel : Region.noSelect ops = true) (hh : headB md ops n = true) (hQ : ∀ c a d v w, Q (.panic c) (Act.put a d v) w → Q (.panic c) a w) :
    ∀ (σ : List (Bool × Nat)) (listed : Array Bool) (a : Act) (w : World), HeadInv md ops n listed → schedB md ops n σ listed = true → C w → wpS P ops C Q T σ a w →
    wpAnyHL P md ops Q C n (fun listed' a' w' => Region.seqB md ops (ops.size - n) n listed' = true ∧ T a' w') σ.length listed a w
  | [], listed, a, w, _, hB, _, h => ⟨hB, h⟩
  | (true, i) :: σ, listed, a, w, inv, hB, hC, h => by
    simp only [schedB, Bool.and_eq_true, decide_eq_true_eq] at hB
    obtain ⟨⟨⟨hin, hr⟩, hf⟩, hB'⟩ := hB
    obtain ⟨o, v, ho, hy, hK⟩ := h
    have hr' : i ∈ Region.ready md ops listed := by simpa using hr
    exact wpAnyHL_first ho (Region.noSelect_spec hsel) hQ hin (fun l il hu => headB_lt hh l il i hin hu) (fun l a w hL => seqB_ready hL.1) σ.length listed a w inv
      (Region.free_spec ho hf) hr' hy hC (wpAnyHL_of_sched hsel hh hQ σ _ _ _ (inv.set hr' hin) hB' hC hK)
  | (false, i) :: σ, listed, a, w, inv, hB, hC, h => by
    simp only [schedB, Bool.and_eq_true, decide_eq_true_eq] at hB
    obtain ⟨⟨hin, hr⟩, hB'⟩ := hB
    refine ⟨by rw [hr]; simp, fun j hj => ?_⟩
    have hji : j = i := by rw [hr] at hj; simpa using hj
    subst hji
    exact ⟨hin, wpOp_mono (fun a' w' h' => ⟨h'.1, wpAnyHL_of_sched hsel hh hQ σ _ _ _ (inv.set hj hin) hB' h'.1 h'.2⟩) h⟩

/-- THE LAW: a region that draws its order, walked by a schedule of its first n operations, and then by the rest in order. -/
theorem wp_region_sched {id : Nat} {a : Act} {w : World} {l : List Oper} (n : Nat) (σ : List (Bool × Nat)) (C : World → Prop) (hm : P.follows .mixedOrders = true)
    (hB : (Region.noSelect l.toArray && headB .any l.toArray n && decide (σ.length = n) && decide (n ≤ l.length) && schedB .any l.toArray n σ (Array.replicate l.length false)) = true)
    (hQ : ∀ c a d v w, Q (.panic c) (Act.put a d v) w → Q (.panic c) a w) (hC : C { w with drawn := w.drawn + 1 })
    (h : wpS P l.toArray C Q (fun a' w' => wpList P l.toArray Q (l.drop n) a' w') σ a { w with drawn := w.drawn + 1 }) : (Code.region id l.toArray true).wp P Q a w := by
  simp only [Bool.and_eq_true, decide_eq_true_eq] at hB
  obtain ⟨⟨⟨⟨hsel, hh⟩, hlen⟩, hn⟩, hs⟩ := hB
  have hdl : (l.drop n).length = l.toArray.size - n := by simp
  have hrep : (Array.replicate l.length false) = Array.replicate l.toArray.size false := by simp
  rw [hrep] at hs
  have inv0 : HeadInv .any l.toArray n (Array.replicate l.toArray.size false) :=
    ⟨by simp, fun j oj _ hl => (by rw [getD_replicate_false] at hl; cases hl), fun t _ ht => getD_in (by simpa using ht) (getD_replicate_false _ _)⟩
  have H := wpAnyHL_of_sched (P := P) (C := C) hsel hh hQ σ _ a _ inv0 hs hC h
  refine wp_region_any hm ?_
  have := wpAny_of_headH (g := l.toArray.size - n) (fun listed a' w' hL => by
    have := wpAny_of_seq (md := .any) (Q' := Q) (l.drop n) n listed a' w' (fun j => by simp [List.getElem?_drop]) (by rw [hdl]; exact hL.1) hL.2
    rwa [hdl] at this) _ _ _ _ H
  have e : σ.length + (l.toArray.size - n) = l.toArray.size := by simp; omega
  rw [e] at this
  exact this

/-- the operations that yield a value, or fail: no call, no store -/
def plainOp : Op → Bool
  | .move _ | .assign _ | .pick _ _ _ | .build _ _ | .load _ _ | .binOp _ _ _ _ _ | .unOp _ _ _ | .convert _ _ _ | .sliceToArrayPointer _ _ | .slice _ _ _ _ _
  | .fieldAddr _ _ _ | .field _ _ _ | .indexAddr _ _ _ | .index _ _ _ | .extract _ _ | .makeInterface _ _ => true
  | _ => false

theorem bind_value (s : Sem Value) (w w' : World) (n : Next) (h : (do pure (Next.value (← s)) : Sem Next).run P w = .ok n w') : ∃ v, n = .value v := by
  rw [Sem.run_bind] at h
  cases hs : s.run P w with
  | ok v w1 =>
    rw [hs] at h
    simp only [Result.andThen, Sem.run_pure] at h
    injection h with h1 h2
    exact ⟨v, h1.symm⟩
  | halt x w1 =>
    rw [hs] at h
    simp [Result.andThen] at h

theorem plain_value {o : Oper} {ρ : Operand → Value} {w w' : World} {n : Next} (hp : plainOp o.op = true) (h : (execOp ρ o).run P w = .ok n w') : ∃ v, n = .value v := by
  unfold execOp at h
  revert hp h
  cases o.op <;> intro hp h <;> first
    | (exact absurd (show false = true from hp) Bool.false_ne_true)
    | (rename_i x; exact ⟨_, ((Result.ok.inj (show Result.ok (Next.value (ρ x)) w = Result.ok n w' from h)).1).symm⟩)
    | (rename_i c x y
       have h' : ((asBool (ρ c)).bind fun b => Sem.pure (Next.value (if b = true then ρ x else ρ y))).run P w = .ok n w' := h
       have e : (((asBool (ρ c)).bind fun b => Sem.pure (if b = true then ρ x else ρ y)).bind fun v => Sem.pure (Next.value v)) = ((asBool (ρ c)).bind fun b => Sem.pure (Next.value (if b = true then ρ x else ρ y))) := by
         unfold asBool; cases ρ c <;> rfl
       rw [← e] at h'
       exact bind_value _ _ _ _ h')
    | (exact bind_value _ _ _ _ h)

theorem yields_of_quiet {o : Oper} {a : Act} {v : Value} (hp : plainOp o.op = true) (h : ∀ w, C w → o.quietAt P a C w v) : ∀ w, C w → (execOp a.eval o).run P w = .ok (.value v) w := by
  intro w hw
  have h3 := h w hw
  unfold Oper.quietAt at h3
  cases hr : (execOp a.eval o).run P w with
  | ok n w' =>
    rw [hr] at h3
    obtain ⟨u, rfl⟩ := plain_value hp hr
    simp only [Oper.quietUpon] at h3
    rw [h3.1, h3.2]
  | halt x w' => rw [hr] at h3; simp only [Oper.quietUpon] at h3

/-- one step: it only reads or computes: by the quiet walk of that one operation -/
theorem wpS_take {T : Act → World → Prop} {σ : List (Bool × Nat)} {i : Nat} {o : Oper} {a : Act} {w : World} (ho : ops[i]? = some o) (hp : plainOp o.op = true)
    (h : wpQuiet P ops C (fun a' => wpS P ops C Q T σ a' w) [o] a) : wpS P ops C Q T ((true, i) :: σ) a w := by
  unfold wpQuiet at h
  by_cases hw : Region.wanted o (yielded ops a.tmps) = true
  · rw [if_pos hw] at h
    obtain ⟨v, h1, h2⟩ := h
    exact ⟨o, v, ho, .inl ⟨hw, yields_of_quiet hp h1⟩, h2⟩
  · rw [if_neg hw] at h
    exact ⟨o, undef, ho, .inr ⟨by simpa using hw, rfl⟩, h⟩

theorem upon_then {o : Oper} {a : Act} {next K : Act → World → Prop} {r : Result Next} (h : o.upon P a next (Exit.then K Q) r) : o.upon P a next Q r := by
  cases r with
  | ok n w' =>
    cases n <;> first
      | exact h
      | (exact Calls.mono h (fun e w'' he => by cases e <;> exact he))
  | halt x w' => cases x <;> exact h

/-- one step: a call, a store, a new block -/
theorem wpS_do {T : Act → World → Prop} {σ : List (Bool × Nat)} {i : Nat} {o : Oper} {a : Act} {w : World} (ho : ops[i]? = some o)
    (h : ∀ K : Act → World → Prop, (∀ a' w', C w' → wpS P ops C Q T σ a' w' → K a' w') → wpList P ops (Exit.then K Q) [o] a w) : wpS P ops C Q T ((false, i) :: σ) a w := by
  have h := h (fun a' w' => C w' ∧ wpS P ops C Q T σ a' w') (fun a' w' h1 h2 => ⟨h1, h2⟩)
  show wpOp P ops Q i (fun a' w' => C w' ∧ wpS P ops C Q T σ a' w') a w
  unfold wpOp
  simp only [ho]
  unfold wpList at h
  by_cases hw : Region.wanted o (yielded ops a.tmps) = true
  · rw [if_pos hw] at h ⊢
    rcases h with h | ⟨h1, h2⟩
    · exact .inl (upon_then h)
    · exact .inr ⟨h1, h2⟩
  · rw [if_neg hw] at h ⊢
    exact h

theorem wpS_takeL {l : List Oper} {T : Act → World → Prop} {σ : List (Bool × Nat)} {i : Nat} {o : Oper} {a : Act} {w : World} (ho : l[i]? = some o) (hp : plainOp o.op = true)
    (h : wpQuiet P l.toArray C (fun a' => wpS P l.toArray C Q T σ a' w) [o] a) : wpS P l.toArray C Q T ((true, i) :: σ) a w := wpS_take (by simpa using ho) hp h
theorem wpS_doL {l : List Oper} {T : Act → World → Prop} {σ : List (Bool × Nat)} {i : Nat} {o : Oper} {a : Act} {w : World} (ho : l[i]? = some o)
    (h : ∀ K : Act → World → Prop, Hid (∀ a' w', C w' → wpS P l.toArray C Q T σ a' w' → K a' w') → wpList P l.toArray (Exit.then K Q) [o] a w) : wpS P l.toArray C Q T ((false, i) :: σ) a w := wpS_do (by simpa using ho) h

theorem wpS_nil {T : Act → World → Prop} {a : Act} {w : World} (h : T a w) : wpS P ops C Q T [] a w := h

/-- the worlds that have all blocks of W below number B -/
def UpTo (B : Nat) (W : World) : Type := { w' : World // Below B W w' }
def UpTo.w {B : Nat} {W : World} (u : UpTo B W) : World := u.1
theorem UpTo.below {B : Nat} {W : World} (u : UpTo B W) : Below B W u.w := u.2
@[go_sem] theorem UpTo.cell {B : Nat} {W : World} (u : UpTo B W) (b o : Nat) (h : b < B) : u.w.cell? ⟨b, o, none⟩ = W.cell? ⟨b, o, none⟩ := u.below.cell (p := ⟨b, o, none⟩) h
/-- the class of a region: all blocks of W below number B are as they were -/
def Up (B : Nat) (W : World) (w' : World) : Prop := ∃ u : UpTo B W, w' = u.w
theorem up_iff {B : Nat} {W w' : World} : Up B W w' ↔ Below B W w' := ⟨fun ⟨u, h⟩ => h ▸ u.below, fun h => ⟨⟨w', h⟩, rfl⟩⟩

/-- THE LAW at the class of a region. -/
theorem wp_region_up {id : Nat} {a : Act} {w : World} {l : List Oper} (B n : Nat) (σ : List (Bool × Nat)) (hm : P.follows .mixedOrders = true)
    (hB : (Region.noSelect l.toArray && headB .any l.toArray n && decide (σ.length = n) && decide (n ≤ l.length) && schedB .any l.toArray n σ (Array.replicate l.length false)) = true)
    (hQ : ∀ c a d v w, Q (.panic c) (Act.put a d v) w → Q (.panic c) a w)
    (h : wpS P l.toArray (fun w' => ∃ u : UpTo B w, w' = u.w) Q (fun a' w' => wpList P l.toArray Q (l.drop n) a' w') σ a w.drew) : (Code.region id l.toArray true).wp P Q a w :=
  wp_region_sched n σ _ hm hB hQ (up_iff.2 (Below.refl B w).drew) h

/-- w' is W, but for block c and for what is new -/
structure OutEx (c : Nat) (W w' : World) : Prop where
  os : w'.os = W.os
  tape : w'.tape = W.tape
  output : w'.output = W.output
  size : W.heap.size ≤ w'.heap.size
  block : ∀ k, k < W.heap.size → k ≠ c → w'.heap[k]? = W.heap[k]?
theorem OutEx.refl (c : Nat) (W : World) : OutEx c W W := ⟨rfl, rfl, rfl, Nat.le_refl _, fun _ _ _ => rfl⟩
theorem OutEx.of {c : Nat} {W w w' : World} (h : OutEx c W w) (hb : Below w.heap.size w w') : OutEx c W w' :=
  ⟨hb.os.trans h.os, hb.tape.trans h.tape, hb.output.trans h.output, Nat.le_trans h.size hb.size, fun k hk hc => (hb.block k (Nat.lt_of_lt_of_le hk h.size)).trans (h.block k hk hc)⟩
theorem OutEx.set {c : Nat} {W w : World} (h : OutEx c W w) (o : Nat) (s : Option Nat) (v : Value) : OutEx c W (w.setCell ⟨c, o, s⟩ v) :=
  ⟨h.os, h.tape, h.output, by simpa [World.setCell] using h.size, fun k hk hc => (Below.heap_setCell _ _ _ _ hc).trans (h.block k hk hc)⟩
theorem OutEx.below {c B : Nat} {W w : World} (h : OutEx c W w) (hB : B ≤ W.heap.size) (hc : B ≤ c) : Below B W w :=
  ⟨h.os, h.tape, h.output, h.size, fun k hk => h.block k (by omega) (by omega)⟩
def UpEx (c : Nat) (W : World) : Type := { w' : World // OutEx c W w' }
def UpEx.w {c : Nat} {W : World} (u : UpEx c W) : World := u.1
@[go_sem] theorem UpEx.cell {c : Nat} {W : World} (u : UpEx c W) (b o : Nat) (h : b < W.heap.size) (hc : b ≠ c) : u.w.cell? ⟨b, o, none⟩ = W.cell? ⟨b, o, none⟩ :=
  World.cell?_of_block (w := W) (u.2.block b h hc)
end
end Go.Proofs.Ytdlpfiiakmhnlaa
namespace Go.Proofs.Ytdlpfiiakmhnlaa
open Go Go.RowKit

section
variable {P : Program} {ops : Array Oper} {Q : Exit → Act → World → Prop} {md : Region.Mode} {W : World}

def dstOf (ops : Array Oper) (i : Nat) : Option Tmp := (ops[i]?).bind (·.dst)
def ptrTo (b : Nat) : Value := .pointer (some ⟨b, 0, none⟩)
/-- the slots of the new variables D, at the blocks β -/
def puts (ops : Array Oper) (β : Nat → Nat) (D : List Nat) (a : Act) : Act := D.foldr (fun i a => a.put (dstOf ops i) (ptrTo (β i))) a

/-- the blocks of the new variables D are there, new, and apart -/
def Good (W : World) (z : Nat → Obj) (β : Nat → Nat) (D : List Nat) (w : World) : Prop :=
  (∀ i ∈ D, W.heap.size ≤ β i ∧ w.heap[β i]? = some (z i)) ∧ (∀ i ∈ D, ∀ j ∈ D, i ≠ j → β i ≠ β j)

/-- the walk by a schedule, the world growing between its steps -/
def wpF (P : Program) (ops : Array Oper) (W : World) (Q : Exit → Act → World → Prop) (T : Act → World → Prop) : List (Bool × Nat) → Act → World → Prop
  | [], a, w => T a w
  | (true, i) :: σ, a, w => ∃ o v, ops[i]? = some o ∧ YieldsIf P ops (fun w' => ∃ u : UpTo W.heap.size W, w' = u.w) o v a ∧ wpF P ops W Q T σ (a.put o.dst v) w
  | (false, i) :: σ, a, w => ∀ w1, Below w.heap.size w w1 → wpOp P ops Q i (fun a' w' => Below w1.heap.size w1 w' ∧ wpF P ops W Q T σ a' w') a w1

/-- the checks on the new variables -/
def floatB (ops : Array Oper) (n : Nat) (A : List Nat) : Bool :=
  decide A.Nodup && A.all fun i => decide (i < n) && match ops[i]? with
    | none => false
    | some oi => oi.after.isEmpty && oi.guard.isNone && oi.dst.isSome &&
      (List.range n).all fun j => j == i || match ops[j]? with
        | none => false
        | some oj => !(oj.after.any fun e => e.on == i) && oi.apart ops oj && oj.apart ops oi

structure FloatOk (ops : Array Oper) (n : Nat) (A : List Nat) : Prop where
  nodup : A.Nodup
  at_ : ∀ i ∈ A, i < n ∧ ∃ oi, ops[i]? = some oi ∧ oi.after = #[] ∧ oi.guard = none ∧ (∃ d, oi.dst = some d) ∧
    ∀ j, j < n → j ≠ i → ∃ oj, ops[j]? = some oj ∧ (∀ e ∈ oj.after, e.on ≠ i) ∧ oi.apart ops oj = true ∧ oj.apart ops oi = true

theorem floatB_ok {n : Nat} {A : List Nat} (h : floatB ops n A = true) : FloatOk ops n A := by
  unfold floatB at h
  rw [Bool.and_eq_true, decide_eq_true_eq, List.all_eq_true] at h
  refine ⟨h.1, fun i hi => ?_⟩
  have h1 := h.2 i hi
  rw [Bool.and_eq_true, decide_eq_true_eq] at h1
  refine ⟨h1.1, ?_⟩
  cases ho : ops[i]? with
  | none => simp [ho] at h1
  | some oi =>
    simp only [ho] at h1
    obtain ⟨_, h2⟩ := h1
    rw [Bool.and_eq_true, Bool.and_eq_true, Bool.and_eq_true, List.all_eq_true] at h2
    obtain ⟨⟨⟨h3, h4⟩, h5⟩, h6⟩ := h2
    refine ⟨oi, rfl, by simpa using h3, by simpa using h4, Option.isSome_iff_exists.1 h5, fun j hj hji => ?_⟩
    have h7 := h6 j (List.mem_range.2 hj)
    cases hoj : ops[j]? with
    | none => simp [hoj, hji] at h7
    | some oj =>
      simp only [hoj, Bool.or_eq_true, beq_iff_eq, hji, false_or, Bool.and_eq_true, Bool.not_eq_true'] at h7
      obtain ⟨⟨h8, h9⟩, h10⟩ := h7
      refine ⟨oj, rfl, fun e he heq => ?_, h9, h10⟩
      have : oj.after.any (fun e => e.on == i) = true := Array.any_eq_true'.2 ⟨e, he, by simpa using heq⟩
      rw [this] at h8; cases h8

theorem yields_put {oi oj : Oper} {v u : Value} {a : Act} {C : World → Prop} (hap : oi.apart ops oj = true) (hsj : ∀ cs b, oj.op ≠ .select cs b) (hy : YieldsIf P ops C oj v a) : YieldsIf P ops C oj v (a.put oi.dst u) := by
  obtain ⟨h1, _, _⟩ := Oper.apart_spec hap
  exact hy.of_same (execOp_put oj hsj a oi.dst u h1) (wanted_put oj a oi.dst u h1)

/-- an operation, where the slot of a new variable is filled already -/
theorem wpOp_at_put {j : Nat} {oi oj : Oper} {v : Value} (hj : ops[j]? = some oj) (hap : oi.apart ops oj = true) (hsj : ∀ cs b, oj.op ≠ .select cs b)
    (hQ : ∀ c a d v w, Q (.panic c) (Act.put a d v) w ↔ Q (.panic c) a w) {K : Act → World → Prop} {a : Act} {w : World} (h : wpOp P ops Q j K a w) :
    wpOp P ops Q j (fun a' w' => ∃ a0, a' = a0.put oi.dst v ∧ K a0 w') (a.put oi.dst v) w := by
  obtain ⟨h1, h2, h3⟩ := Oper.apart_spec hap
  unfold wpOp at *
  simp only [hj] at *
  rw [wanted_put oj a oi.dst v h1]
  split
  · rename_i hw
    simp only [hw, if_true] at h
    rcases h with h | ⟨hasks, hlets⟩
    case inr => exact .inr ⟨by unfold Oper.asks at *; rw [execOp_put oj hsj a oi.dst v h1]; exact hasks, hlets⟩
    refine .inl ?_
    unfold Oper.wp at *
    rw [execOp_put oj hsj a oi.dst v h1]
    generalize (execOp a.eval oj).run P w = r at *
    cases r with
    | ok n w' =>
      cases n <;> simp only [Oper.upon] at h ⊢
      case value u => exact ⟨_, Act.put_comm a v u h2, h⟩
      case skip => exact ⟨_, Act.put_comm a v undef h2, h⟩
      case defer d => exact ⟨_, by rw [Act.put_defers, Act.put_comm _ v undef h2], h⟩
      case enter f args =>
        refine Calls.mono h fun e w'' he => ?_
        cases e with
        | returned u => exact ⟨_, Act.put_comm a v u h2, he⟩
        | panicked c => exact (hQ _ _ _ _ _).2 he
        | outgrown => exact he
      case row row args => exact Rows.mono h fun u w'' he => ⟨_, Act.put_comm a v u h2, he⟩
    | halt x w' =>
      cases x <;> simp only [Oper.upon] at h ⊢
      case panic u => exact (hQ _ _ _ _ _).2 h
  · rename_i hw
    simp only [hw] at h
    exact ⟨_, Act.put_comm a v undef h2, h⟩

theorem wpOp_at_puts {n j : Nat} {oj : Oper} {A : List Nat} (ok : FloatOk ops n A) (β : Nat → Nat) (hj : ops[j]? = some oj) (hjn : j < n) (hjA : j ∉ A) (hsj : ∀ cs b, oj.op ≠ .select cs b)
    (hQ : ∀ c a d v w, Q (.panic c) (Act.put a d v) w ↔ Q (.panic c) a w) {a : Act} {w : World} : ∀ (D : List Nat), (∀ i ∈ D, i ∈ A) → ∀ {K : Act → World → Prop}, wpOp P ops Q j K a w →
    wpOp P ops Q j (fun a' w' => ∃ a0, a' = puts ops β D a0 ∧ K a0 w') (puts ops β D a) w
  | [], _, K, h => wpOp_mono (fun a' w' h' => ⟨a', rfl, h'⟩) h
  | i :: D, hD, K, h => by
    have ih := wpOp_at_puts ok β hj hjn hjA hsj hQ D (fun k hk => hD k (List.mem_cons_of_mem _ hk)) h
    obtain ⟨_, oi, hoi, _, _, _, hall⟩ := ok.at_ i (hD i (List.mem_cons_self ..))
    obtain ⟨oj', hoj', _, hap, _⟩ := hall j hjn (fun e => hjA (e ▸ hD i (List.mem_cons_self ..)))
    obtain rfl : oj = oj' := Option.some.inj (hj.symm.trans hoj')
    have h1 := wpOp_at_put (v := ptrTo (β i)) hj hap hsj hQ ih
    have hd : dstOf ops i = oi.dst := by simp [dstOf, hoi]
    show wpOp P ops Q j _ ((puts ops β D a).put (dstOf ops i) (ptrTo (β i))) w
    rw [hd]
    refine wpOp_mono (fun a' w' ⟨a1, e1, a0, e0, hk⟩ => ⟨a0, ?_, hk⟩) h1
    rw [e1, e0]; show _ = (puts ops β D a0).put (dstOf ops i) (ptrTo (β i)); rw [hd]

theorem puts_put {n j : Nat} {oj : Oper} {A : List Nat} (ok : FloatOk ops n A) (β : Nat → Nat) (hj : ops[j]? = some oj) (hjn : j < n) (hjA : j ∉ A) (v : Value) (a : Act) : ∀ (D : List Nat), (∀ i ∈ D, i ∈ A) →
    (puts ops β D a).put oj.dst v = puts ops β D (a.put oj.dst v)
  | [], _ => rfl
  | i :: D, hD => by
    obtain ⟨_, oi, hoi, _, _, _, hall⟩ := ok.at_ i (hD i (List.mem_cons_self ..))
    obtain ⟨oj', hoj', _, hap, _⟩ := hall j hjn (fun e => hjA (e ▸ hD i (List.mem_cons_self ..)))
    obtain rfl : oj = oj' := Option.some.inj (hj.symm.trans hoj')
    have hd : dstOf ops i = oi.dst := by simp [dstOf, hoi]
    show ((puts ops β D a).put (dstOf ops i) (ptrTo (β i))).put oj.dst v = (puts ops β D (a.put oj.dst v)).put (dstOf ops i) (ptrTo (β i))
    rw [hd, Act.put_comm _ _ _ (Oper.apart_spec hap).2.1, puts_put ok β hj hjn hjA v a D (fun k hk => hD k (List.mem_cons_of_mem _ hk))]

theorem puts_yields {n j : Nat} {oj : Oper} {A : List Nat} {v : Value} {C : World → Prop} (ok : FloatOk ops n A) (β : Nat → Nat) (hj : ops[j]? = some oj) (hjn : j < n) (hjA : j ∉ A) (hsj : ∀ cs b, oj.op ≠ .select cs b) (a : Act)
    (hy : YieldsIf P ops C oj v a) : ∀ (D : List Nat), (∀ i ∈ D, i ∈ A) → YieldsIf P ops C oj v (puts ops β D a)
  | [], _ => hy
  | i :: D, hD => by
    obtain ⟨_, oi, hoi, _, _, _, hall⟩ := ok.at_ i (hD i (List.mem_cons_self ..))
    obtain ⟨oj', hoj', _, hap, _⟩ := hall j hjn (fun e => hjA (e ▸ hD i (List.mem_cons_self ..)))
    obtain rfl : oj = oj' := Option.some.inj (hj.symm.trans hoj')
    have hd : dstOf ops i = oi.dst := by simp [dstOf, hoi]
    show YieldsIf P ops C oj v ((puts ops β D a).put (dstOf ops i) (ptrTo (β i)))
    rw [hd]
    exact yields_put hap hsj (puts_yields ok β hj hjn hjA hsj a hy D (fun k hk => hD k (List.mem_cons_of_mem _ hk)))

theorem puts_congr {β β' : Nat → Nat} (a : Act) : ∀ (D : List Nat), (∀ i ∈ D, β i = β' i) → puts ops β D a = puts ops β' D a
  | [], _ => rfl
  | i :: D, h => by
    show (puts ops β D a).put _ _ = (puts ops β' D a).put _ _
    rw [h i (List.mem_cons_self ..), puts_congr a D (fun k hk => h k (List.mem_cons_of_mem _ hk))]

theorem puts_perm {n : Nat} {A : List Nat} (ok : FloatOk ops n A) (β : Nat → Nat) (a : Act) {D D' : List Nat} (hD : ∀ i ∈ D, i ∈ A) (p : D.Perm D') : puts ops β D a = puts ops β D' a := by
  unfold puts
  refine p.foldr_eq' (fun i hi j hj z => ?_) a
  by_cases hij : i = j
  · subst hij; rfl
  · obtain ⟨hin, oi, hoi, _, _, _, hall⟩ := ok.at_ i (hD i hi)
    obtain ⟨hjn, _⟩ := ok.at_ j (hD j hj)
    obtain ⟨oj, hoj, _, hap, _⟩ := hall j hjn (Ne.symm hij)
    have e1 : dstOf ops i = oi.dst := by simp [dstOf, hoi]
    have e2 : dstOf ops j = oj.dst := by simp [dstOf, hoj]
    rw [e1, e2]
    exact Act.put_comm _ _ _ (Oper.apart_spec hap).2.1


theorem nodup_sub : ∀ (D A : List Nat), D.Nodup → (∀ i ∈ D, i ∈ A) → ∃ R, A.Perm (D ++ R)
  | [], A, _, _ => ⟨A, List.Perm.refl _⟩
  | i :: D, A, hn, hs => by
    obtain ⟨hi, hn'⟩ := List.nodup_cons.1 hn
    obtain ⟨R, hR⟩ := nodup_sub D (A.erase i) hn' (fun k hk => (List.mem_erase_of_ne (show k ≠ i from fun e => hi (by rw [← e]; exact hk))).2 (hs k (List.mem_cons_of_mem _ hk)))
    exact ⟨R, (List.perm_cons_erase (hs i (List.mem_cons_self ..))).trans (hR.cons i)⟩
theorem nodup_le {D A : List Nat} (hn : D.Nodup) (hs : ∀ i ∈ D, i ∈ A) : D.length ≤ A.length := by
  obtain ⟨R, hR⟩ := nodup_sub D A hn hs
  rw [hR.length_eq, List.length_append]; omega
theorem nodup_perm {D A : List Nat} (hn : D.Nodup) (hs : ∀ i ∈ D, i ∈ A) (hl : A.length ≤ D.length) : D.Perm A := by
  obtain ⟨R, hR⟩ := nodup_sub D A hn hs
  have e := hR.length_eq
  rw [List.length_append] at e
  have : R = [] := List.length_eq_zero_iff.1 (by omega)
  rw [this, List.append_nil] at hR
  exact hR.symm

/-- where the walk stands: ls: what the schedule has listed, all new variables with it; listed: what has come up in truth; D: the new variables that are made -/
structure FlSt (md : Region.Mode) (ops : Array Oper) (n : Nat) (A : List Nat) (W : World) (z : Nat → Obj) (ls listed : Array Bool) (D : List Nat) (β : Nat → Nat) (w : World) : Prop where
  size : listed.size = ops.size
  lsz : ls.size = ops.size
  sub : ∀ j, listed.getD j false = true → ls.getD j false = true
  sup : ∀ j, ls.getD j false = true → j ∉ A → listed.getD j false = true
  flo : ∀ j ∈ A, (listed.getD j false = true ↔ j ∈ D)
  lsA : ∀ i ∈ A, ls.getD i false = true
  inv : HeadInv md ops n listed
  dn : D.Nodup
  da : ∀ i ∈ D, i ∈ A
  cw : Below W.heap.size W w
  good : Good W z β D w

theorem getD_tf {listed : Array Bool} {j : Nat} (hj : j < listed.size) : listed.getD j true = listed.getD j false := by simp [hj]

theorem getD_set {listed : Array Bool} {i j : Nat} (hi : i < listed.size) : (listed.setIfInBounds i true).getD j false = (decide (j = i) || listed.getD j false) := by
  by_cases h : j = i
  · subst h; simp [hi]
  · rw [getD_set_ne false (Ne.symm h)]; simp [h]

/-- who may come up in truth: who may by the schedule, or a new variable that isn't made yet -/
theorem FlSt.ready {n : Nat} {A : List Nat} {z : Nat → Obj} {ls listed : Array Bool} {D : List Nat} {β : Nat → Nat} {w : World} (s : FlSt md ops n A W z ls listed D β w) {j : Nat}
    (hj : j ∈ Region.ready md ops listed) : (j ∈ A ∧ j ∉ D) ∨ (j ∉ A ∧ j ∈ Region.ready md ops ls) := by
  obtain ⟨hun, o, ho, hall⟩ := mem_ready.1 hj
  have hjs : j < ops.size := (Array.getElem?_eq_some_iff.1 ho).1
  rw [getD_tf (by rw [s.size]; exact hjs)] at hun
  by_cases hA : j ∈ A
  · exact .inl ⟨hA, fun hD => by rw [(s.flo j hA).2 hD] at hun; cases hun⟩
  · refine .inr ⟨hA, mem_ready.2 ⟨?_, o, ho, fun e he hb => s.sub _ (hall e he hb)⟩⟩
    rw [getD_tf (by rw [s.lsz]; exact hjs)]
    cases h : ls.getD j false with
    | false => rfl
    | true => rw [s.sup j h hA] at hun; cases hun

theorem FlSt.ready_of {n n1 : Nat} {A : List Nat} {z : Nat → Obj} {ls listed : Array Bool} {D : List Nat} {β : Nat → Nat} {w : World} (ok : FloatOk ops n1 A) (s : FlSt md ops n A W z ls listed D β w) {j : Nat} (hjn : j < n1)
    (hj : j ∈ Region.ready md ops ls) : j ∉ A ∧ j ∈ Region.ready md ops listed := by
  obtain ⟨hun, o, ho, hall⟩ := mem_ready.1 hj
  have hjs : j < ops.size := (Array.getElem?_eq_some_iff.1 ho).1
  rw [getD_tf (by rw [s.lsz]; exact hjs)] at hun
  have hA : j ∉ A := fun hA => by rw [s.lsA j hA] at hun; cases hun
  refine ⟨hA, mem_ready.2 ⟨?_, o, ho, fun e he hb => s.sup _ (hall e he hb) (fun hin => ?_)⟩⟩
  · rw [getD_tf (by rw [s.size]; exact hjs)]
    cases h : listed.getD j false with
    | false => rfl
    | true => rw [s.sub j h] at hun; cases hun
  · obtain ⟨_, oi, _, _, _, _, hall'⟩ := ok.at_ _ hin
    obtain ⟨oj, hoj, hno, _, _⟩ := hall' j hjn (fun e' => hA (e' ▸ hin))
    obtain rfl : o = oj := Option.some.inj (ho.symm.trans hoj)
    exact hno e he rfl

theorem FlSt.pending {n n1 : Nat} {A : List Nat} {z : Nat → Obj} {ls listed : Array Bool} {D : List Nat} {β : Nat → Nat} {w : World} (ok : FloatOk ops n1 A) (s : FlSt md ops n A W z ls listed D β w) {j : Nat} (hA : j ∈ A) (hD : j ∉ D) :
    j ∈ Region.ready md ops listed := by
  obtain ⟨_, oi, hoi, ha, _⟩ := ok.at_ j hA
  have hjs : j < ops.size := (Array.getElem?_eq_some_iff.1 hoi).1
  refine mem_ready.2 ⟨?_, oi, hoi, fun e he => by rw [ha] at he; simp at he⟩
  rw [getD_tf (by rw [s.size]; exact hjs)]
  cases h : listed.getD j false with
  | false => rfl
  | true => exact absurd ((s.flo j hA).1 h) hD

theorem FlSt.step {n : Nat} {A : List Nat} {z : Nat → Obj} {ls listed : Array Bool} {D : List Nat} {β : Nat → Nat} {w w' : World} (s : FlSt md ops n A W z ls listed D β w) {j : Nat} (hjn : j < n) (hA : j ∉ A)
    (hr : j ∈ Region.ready md ops listed) (hb : Below w.heap.size w w') : FlSt md ops n A W z (ls.setIfInBounds j true) (listed.setIfInBounds j true) D β w' := by
  obtain ⟨_, o, ho, _⟩ := mem_ready.1 hr
  have hjs : j < ops.size := (Array.getElem?_eq_some_iff.1 ho).1
  have h1 : ∀ k, (listed.setIfInBounds j true).getD k false = (decide (k = j) || listed.getD k false) := fun k => getD_set (by rw [s.size]; exact hjs)
  have h2 : ∀ k, (ls.setIfInBounds j true).getD k false = (decide (k = j) || ls.getD k false) := fun k => getD_set (by rw [s.lsz]; exact hjs)
  refine ⟨by simp [s.size], by simp [s.lsz], fun k hk => ?_, fun k hk hkA => ?_, fun k hk => ?_, fun k hk => ?_, s.inv.set hr hjn, s.dn, s.da, s.cw.trans (hb.mono s.cw.size), ?_⟩
  · rw [h1, Bool.or_eq_true] at hk; rw [h2, Bool.or_eq_true]; exact hk.imp id (s.sub k)
  · rw [h2, Bool.or_eq_true] at hk; rw [h1, Bool.or_eq_true]; exact hk.imp id (fun h => s.sup k h hkA)
  · rw [h1]
    have : k ≠ j := fun e => hA (e ▸ hk)
    simp only [this, decide_false, Bool.false_or]; exact s.flo k hk
  · rw [h2, Bool.or_eq_true]; exact .inr (s.lsA k hk)
  · refine ⟨fun i hi => ⟨(s.good.1 i hi).1, ?_⟩, s.good.2⟩
    have h3 := (s.good.1 i hi).2
    rw [hb.block _ (Array.getElem?_eq_some_iff.1 h3).1]; exact h3

theorem FlSt.made {n n1 : Nat} {A : List Nat} {z : Nat → Obj} {ls listed : Array Bool} {D : List Nat} {β : Nat → Nat} {w : World} (ok : FloatOk ops n1 A) (hn1 : n1 ≤ n) (s : FlSt md ops n A W z ls listed D β w) {i : Nat} (hA : i ∈ A) (hD : i ∉ D) :
    FlSt md ops n A W z ls (listed.setIfInBounds i true) (i :: D) (fun k => if k = i then w.heap.size else β k) (w.alloc (z i)) := by
  have hr := s.pending ok hA hD
  obtain ⟨hin, oi, hoi, _⟩ := ok.at_ i hA
  have his : i < ops.size := (Array.getElem?_eq_some_iff.1 hoi).1
  have h1 : ∀ k, (listed.setIfInBounds i true).getD k false = (decide (k = i) || listed.getD k false) := fun k => getD_set (by rw [s.size]; exact his)
  have hnew : (w.alloc (z i)).heap[w.heap.size]? = some (z i) := by
    show (w.heap.push _)[w.heap.size]? = _
    rw [Array.getElem?_push, if_pos rfl]
  have hold : ∀ k, k < w.heap.size → (w.alloc (z i)).heap[k]? = w.heap[k]? := fun k hk => Below.heap_alloc _ _ _ hk
  have hlt : ∀ k ∈ D, β k < w.heap.size := fun k hk => (Array.getElem?_eq_some_iff.1 (s.good.1 k hk).2).1
  refine ⟨by simp [s.size], s.lsz, fun k hk => ?_, fun k hk hkA => ?_, fun k hk => ?_, s.lsA, s.inv.set hr (Nat.lt_of_lt_of_le hin hn1), List.nodup_cons.2 ⟨hD, s.dn⟩, fun k hk => ?_, s.cw.alloc s.cw.size _, fun k hk => ?_, fun k hk j hj hkj => ?_⟩
  · rw [h1, Bool.or_eq_true] at hk
    rcases hk with hk | hk
    · have : k = i := by simpa using hk
      rw [this]; exact s.lsA i hA
    · exact s.sub k hk
  · rw [h1, Bool.or_eq_true]; exact .inr (s.sup k hk hkA)
  · rw [h1, Bool.or_eq_true, List.mem_cons, s.flo k hk, decide_eq_true_eq]
  · rcases List.mem_cons.1 hk with rfl | hk
    · exact hA
    · exact s.da k hk
  · rcases List.mem_cons.1 hk with rfl | hk'
    · simp only [if_pos]; exact ⟨s.cw.size, hnew⟩
    · have hki : k ≠ i := fun e => hD (e ▸ hk')
      simp only [if_neg hki]
      exact ⟨(s.good.1 k hk').1, by rw [hold _ (hlt k hk')]; exact (s.good.1 k hk').2⟩
  · rcases List.mem_cons.1 hk with rfl | hk' <;> rcases List.mem_cons.1 hj with rfl | hj'
    · exact absurd rfl hkj
    · have hji : j ≠ k := fun e => hkj e.symm
      simp only [if_pos, if_neg hji]
      have := hlt j hj'; omega
    · have hki : k ≠ j := hkj
      simp only [if_pos, if_neg hki]
      have := hlt k hk'; omega
    · have hki : k ≠ i := fun e => hD (e ▸ hk')
      have hji : j ≠ i := fun e => hD (e ▸ hj')
      simp only [if_neg hki, if_neg hji]
      exact s.good.2 k hk' j hj' hkj

theorem made_step {n : Nat} {A : List Nat} {z : Nat → Obj} (ok : FloatOk ops n A) (hAl : ∀ i ∈ A, ∀ oi, ops[i]? = some oi → ∀ ρ w, (execOp ρ oi).run P w = .ok (.value (ptrTo w.heap.size)) (w.alloc (z i)))
    {D : List Nat} {β : Nat → Nat} {a0 : Act} {w : World} {i : Nat} (hA : i ∈ A) (hD : i ∉ D) {K : Act → World → Prop}
    (h : K (puts ops (fun k => if k = i then w.heap.size else β k) (i :: D) a0) (w.alloc (z i))) : wpOp P ops Q i K (puts ops β D a0) w := by
  obtain ⟨_, oi, hoi, _, hg, _, _⟩ := ok.at_ i hA
  unfold wpOp
  simp only [hoi]
  have hw : Region.wanted oi (yielded ops (puts ops β D a0).tmps) = true := by simp [Region.wanted, hg]
  rw [if_pos hw]
  refine .inl ?_
  unfold Oper.wp
  rw [hAl i hA oi hoi]
  show K ((puts ops β D a0).put oi.dst (ptrTo w.heap.size)) (w.alloc (z i))
  have e : puts ops (fun k => if k = i then w.heap.size else β k) (i :: D) a0 = (puts ops β D a0).put oi.dst (ptrTo w.heap.size) := by
    show (puts ops (fun k => if k = i then w.heap.size else β k) D a0).put (dstOf ops i) (ptrTo (if i = i then w.heap.size else β i)) = _
    rw [if_pos rfl, puts_congr (β' := β) a0 D (fun k hk => by rw [if_neg (fun e => hD (by rw [← e]; exact hk))])]
    simp [dstOf, hoi]
  rw [← e]; exact h

theorem float_main {n : Nat} {A : List Nat} {z : Nat → Obj} {T : Act → World → Prop} (hsel : Region.noSelect ops = true) (hh : headB md ops n = true) (hQ : ∀ c a d v w, Q (.panic c) (Act.put a d v) w ↔ Q (.panic c) a w)
    (ok : FloatOk ops n A) (hAl : ∀ i ∈ A, ∀ oi, ops[i]? = some oi → ∀ ρ w, (execOp ρ oi).run P w = .ok (.value (ptrTo w.heap.size)) (w.alloc (z i))) :
    ∀ (f : Nat) (σ : List (Bool × Nat)) (D : List Nat) (β : Nat → Nat) (a0 : Act) (w0 w : World) (ls listed : Array Bool), σ.length + (A.length - D.length) = f → FlSt md ops n A W z ls listed D β w →
      schedB md ops n σ ls = true → Below w0.heap.size w0 w → wpF P ops W Q (fun a w => ∀ w1, Below w.heap.size w w1 → Below W.heap.size W w1 → ∀ β, Good W z β A w1 → T (puts ops β A a) w1) σ a0 w0 →
      wpAnyHL P md ops Q (fun w' => ∃ u : UpTo W.heap.size W, w' = u.w) n (fun listed' a' w' => Region.seqB md ops (ops.size - n) n listed' = true ∧ T a' w') f listed (puts ops β D a0) w := by
 intro f
 induction f with
 | zero =>
  intro σ D β a0 w0 w ls listed hf s hB hb h
  have hσ : σ = [] := List.length_eq_zero_iff.1 (by omega)
  subst hσ
  have hlen : A.length ≤ D.length := by simp only [List.length_nil] at hf; omega
  have hp : D.Perm A := nodup_perm s.dn s.da hlen
  have e : listed = ls := by
   refine Array.ext (s.size.trans s.lsz.symm) fun i h1 h2 => ?_
   have e1 : listed.getD i false = listed[i] := by simp [h1]
   have e2 : ls.getD i false = ls[i] := by simp [h2]
   rw [← e1, ← e2, Bool.eq_iff_iff]
   refine ⟨s.sub i, fun hi => ?_⟩
   by_cases hA : i ∈ A
   ·exact (s.flo i hA).2 (hp.mem_iff.2 hA)
   ·exact s.sup i hi hA
  refine ⟨by rw [e]; exact hB, ?_⟩
  rw [puts_perm ok β a0 s.da hp]
  exact h w hb s.cw β ⟨fun i hi => s.good.1 i (hp.mem_iff.2 hi), fun i hi j hj => s.good.2 i (hp.mem_iff.2 hi) j (hp.mem_iff.2 hj)⟩
 | succ f ih =>
  intro σ D β a0 w0 w ls listed hf s hB hb h
  have allocs : ∀ i, i ∈ A → i ∉ D → i < n ∧ wpOp P ops Q i (fun a' w' => (∃ u : UpTo W.heap.size W, w' = u.w) ∧ wpAnyHL P md ops Q (fun w' => ∃ u : UpTo W.heap.size W, w' = u.w) n (fun listed' a' w' => Region.seqB md ops (ops.size - n) n listed' = true ∧ T a' w') f (listed.setIfInBounds i true) a' w') (puts ops β D a0) w := by
   intro i hA hD
   refine ⟨(ok.at_ i hA).1, made_step ok hAl hA hD ?_⟩
   have s' := s.made ok (Nat.le_refl _) hA hD
   refine ⟨up_iff.2 s'.cw, ih σ (i :: D) _ a0 w0 (w.alloc (z i)) ls _ ?_ s' hB (hb.alloc hb.size _) h⟩
   have hle : (i :: D).length ≤ A.length := nodup_le (List.nodup_cons.2 ⟨hD, s.dn⟩) s'.da
   simp only [List.length_cons] at hle ⊢
   omega
  match σ, hf, hB, h with
  | [], hf, hB, h =>
   have hpend : ∃ i, i ∈ A ∧ i ∉ D := by
    refine Classical.byContradiction fun hno => ?_
    have hsub : ∀ i ∈ A, i ∈ D := fun i hi => Classical.byContradiction fun h' => hno ⟨i, hi, h'⟩
    have := nodup_le ok.nodup hsub
    simp only [List.length_nil] at hf; omega
   obtain ⟨i, hA, hD⟩ := hpend
   have hri := s.pending ok hA hD
   refine ⟨fun h0 => (by rw [h0] at hri; cases hri), fun j hj => ?_⟩
   have hjn := headB_lt hh listed s.inv i (ok.at_ i hA).1 (mem_ready.1 hri).1 j hj
   rcases s.ready hj with ⟨h1, h2⟩ | ⟨_, h2⟩
   ·exact allocs j h1 h2
   ·have := seqB_ready hB j h2; omega
  | (true, i) :: σ, hf, hB, h =>
   simp only [schedB, Bool.and_eq_true, decide_eq_true_eq] at hB
   obtain ⟨⟨⟨hin, hr⟩, hfr⟩, hB'⟩ := hB
   obtain ⟨o, v, ho, hy, hK⟩ := h
   have hr' : i ∈ Region.ready md ops ls := by simpa using hr
   obtain ⟨hiA, hrl⟩ := s.ready_of ok hin hr'
   have hsj := Region.noSelect_spec hsel i o
   refine wpAnyHL_first ho (Region.noSelect_spec hsel) (fun c a d v w => (hQ c a d v w).1) hin (fun l il hu => headB_lt hh l il i hin hu) (fun l a w hL => seqB_ready hL.1) f listed _ w s.inv ?_ hrl
    (puts_yields ok β ho hin hiA (fun cs b => hsj cs b ho) a0 hy D s.da) (up_iff.2 s.cw) ?_
   ·intro j oj hj hji hun hno
    by_cases hjA : j ∈ A
    ·obtain ⟨_, oj', hoj', _, _, _, hall⟩ := ok.at_ j hjA
     obtain ⟨oi', hoi', _, _, hap⟩ := hall i hin (Ne.symm hji)
     obtain rfl : o = oi' := Option.some.inj (ho.symm.trans hoi')
     obtain rfl : oj = oj' := Option.some.inj (hj.symm.trans hoj')
     exact hap
    ·have hjs : j < ops.size := (Array.getElem?_eq_some_iff.1 hj).1
     refine Region.free_spec ho hfr j oj hj hji ?_ hno
     rw [getD_tf (by rw [s.lsz]; exact hjs)]
     rw [getD_tf (by rw [s.size]; exact hjs)] at hun
     cases hl : ls.getD j false with
     | false => rfl
     | true => rw [s.sup j hl hjA] at hun; cases hun
   ·rw [puts_put ok β ho hin hiA v a0 D s.da]
    exact ih σ D β _ w0 w _ _ (by simp only [List.length_cons] at hf; omega) (s.step hin hiA hrl (Below.refl _ _)) hB' hb hK
  | (false, i) :: σ, hf, hB, h =>
   simp only [schedB, Bool.and_eq_true, decide_eq_true_eq] at hB
   obtain ⟨⟨hin, hr⟩, hB'⟩ := hB
   obtain ⟨hiA, hrl⟩ := s.ready_of ok hin (by rw [hr]; simp : i ∈ Region.ready md ops ls)
   refine ⟨fun h0 => (by rw [h0] at hrl; cases hrl), fun j hj => ?_⟩
   rcases s.ready hj with ⟨h1, h2⟩ | ⟨_, h2⟩
   ·exact allocs j h1 h2
   ·have hji : j = i := by rw [hr] at h2; simpa using h2
    subst hji
    obtain ⟨_, o, ho, _⟩ := mem_ready.1 hrl
    have hsj := Region.noSelect_spec hsel j o
    refine ⟨hin, wpOp_mono (fun a' w' h' => ?_) (wpOp_at_puts ok β ho hin hiA (fun cs b => hsj cs b ho) hQ D s.da (h w hb))⟩
    obtain ⟨a1, rfl, hb1, hK⟩ := h'
    have s' := s.step hin hiA hrl hb1
    exact ⟨up_iff.2 s'.cw, ih σ D β a1 w' w' _ _ (by simp only [List.length_cons] at hf; omega) s' hB' (Below.refl _ _) hK⟩

/-- THE LAW: a region that draws its order and makes the new variables A (each of them the object z), walked by a schedule. -/
theorem wp_region_float {id : Nat} {a : Act} {w : World} {l : List Oper} (n : Nat) (A : List Nat) (z : Nat → Obj) (σ : List (Bool × Nat)) (hm : P.follows .mixedOrders = true)
    (hB : (Region.noSelect l.toArray && headB .any l.toArray n && decide (σ.length + A.length = n) && decide (n ≤ l.length) && floatB l.toArray n A &&
      schedB .any l.toArray n σ ((List.range l.length).map (fun i => A.contains i)).toArray) = true)
    (hQ : ∀ c a d v w, Q (.panic c) (Act.put a d v) w ↔ Q (.panic c) a w)
    (hAl : ∀ i ∈ A, ∀ oi, l[i]? = some oi → ∀ ρ w, (execOp ρ oi).run P w = .ok (.value (ptrTo w.heap.size)) (w.alloc (z i)))
    (h : wpF P l.toArray w Q (fun a w' => ∀ w1, Below w'.heap.size w' w1 → Below w.heap.size w w1 → ∀ β, Good w z β A w1 → wpList P l.toArray Q (l.drop n) (puts l.toArray β A a) w1) σ a w.drew) : (Code.region id l.toArray true).wp P Q a w := by
 simp only [Bool.and_eq_true, decide_eq_true_eq] at hB
 obtain ⟨⟨⟨⟨⟨hsel, hh⟩, hlen⟩, hn⟩, hfl⟩, hs⟩ := hB
 have ok := floatB_ok hfl
 have hdl : (l.drop n).length = l.toArray.size - n := by simp
 have hls : ∀ j, ((List.range l.length).map (fun i => A.contains i)).toArray.getD j false = true ↔ j ∈ A ∧ j < l.length := by
  intro j
  by_cases hj : j < l.length
  ·simp [hj]
  ·simp [hj]
 have s0 : FlSt .any l.toArray n A w z ((List.range l.length).map (fun i => A.contains i)).toArray (Array.replicate l.toArray.size false) [] (fun _ => 0) w.drew := by
  refine ⟨by simp, by simp, fun j hj => (by rw [getD_replicate_false] at hj; cases hj), fun j hj hA => absurd ((hls j).1 hj).1 hA, fun j _ => ?_, fun i hi => ?_, ?_, List.nodup_nil, fun i hi => (by cases hi), (Below.refl _ _).drew, fun i hi => (by cases hi), fun i hi => (by cases hi)⟩
  ·rw [getD_replicate_false]; simp
  ·obtain ⟨_, oi, hoi, _⟩ := ok.at_ i hi
   have := (Array.getElem?_eq_some_iff.1 hoi).1
   exact (hls i).2 ⟨hi, by simpa using this⟩
  ·exact ⟨by simp, fun j oj _ hl => (by rw [getD_replicate_false] at hl; cases hl), fun t _ ht => getD_in (by simpa using ht) (getD_replicate_false _ _)⟩
 have H := float_main (T := fun a' w' => wpList P l.toArray Q (l.drop n) a' w') hsel hh hQ ok (fun i hi oi ho => hAl i hi oi (by simpa using ho)) _ σ [] (fun _ => 0) a w.drew w.drew _ _ rfl s0 hs (Below.refl _ _) h
 refine wp_region_any hm ?_
 have := wpAny_of_headH (g := l.toArray.size - n) (fun listed a' w' hL => by
  have := wpAny_of_seq (md := .any) (Q' := Q) (l.drop n) n listed a' w' (fun j => by simp [List.getElem?_drop]) (by rw [hdl]; exact hL.1) hL.2
  rwa [hdl] at this) _ _ _ _ H
 have e : σ.length + (A.length - ([] : List Nat).length) + (l.toArray.size - n) = l.toArray.size := by simp; omega
 rw [e] at this
 exact this

/-- one step: it only reads or computes -/
theorem wpF_take {l : List Oper} {T : Act → World → Prop} {σ : List (Bool × Nat)} {i : Nat} {o : Oper} {a : Act} {w : World} (ho : l[i]? = some o) (hp : plainOp o.op = true)
    (h : wpQuiet P l.toArray (fun w' => ∃ u : UpTo W.heap.size W, w' = u.w) (fun a' => wpF P l.toArray W Q T σ a' w) [o] a) : wpF P l.toArray W Q T ((true, i) :: σ) a w := by
  have ho' : l.toArray[i]? = some o := by simpa using ho
  unfold wpQuiet at h
  by_cases hw : Region.wanted o (yielded l.toArray a.tmps) = true
  · rw [if_pos hw] at h
    obtain ⟨v, h1, h2⟩ := h
    exact ⟨o, v, ho', .inl ⟨hw, yields_of_quiet hp h1⟩, h2⟩
  · rw [if_neg hw] at h
    exact ⟨o, undef, ho', .inr ⟨by simpa using hw, rfl⟩, h⟩

/-- one step: a call -/
theorem wpF_do {l : List Oper} {T : Act → World → Prop} {σ : List (Bool × Nat)} {i : Nat} {o : Oper} {a : Act} {w : World} (ho : l[i]? = some o)
    (h : ∀ w1, Below w.heap.size w w1 → ∀ K : Act → World → Prop, Hid (∀ a' w', Below w1.heap.size w1 w' → wpF P l.toArray W Q T σ a' w' → K a' w') → wpList P l.toArray (Exit.then K Q) [o] a w1) : wpF P l.toArray W Q T ((false, i) :: σ) a w := by
  intro w1 hb
  have h := h w1 hb (fun a' w' => Below w1.heap.size w1 w' ∧ wpF P l.toArray W Q T σ a' w') (fun a' w' h1 h2 => ⟨h1, h2⟩)
  have ho' : l.toArray[i]? = some o := by simpa using ho
  unfold wpOp
  simp only [ho']
  unfold wpList at h
  by_cases hw : Region.wanted o (yielded l.toArray a.tmps) = true
  · rw [if_pos hw] at h ⊢
    rcases h with h | ⟨h1, h2⟩
    · exact .inl (upon_then h)
    · exact .inr ⟨h1, h2⟩
  · rw [if_neg hw] at h ⊢
    exact h

theorem wpF_nil {T : Act → World → Prop} {a : Act} {w : World} (h : T a w) : wpF P ops W Q T [] a w := h


theorem wpF_mono {T T' : Act → World → Prop} (h : ∀ a w, T a w → T' a w) : ∀ (σ : List (Bool × Nat)) (a : Act) (w : World), wpF P ops W Q T σ a w → wpF P ops W Q T' σ a w
  | [], _, _, hh => h _ _ hh
  | (true, _) :: σ, _, _, ⟨o, v, h1, h2, h3⟩ => ⟨o, v, h1, h2, wpF_mono h σ _ _ h3⟩
  | (false, _) :: σ, _, _, hh => fun w1 hb => wpOp_mono (fun _ _ h' => ⟨h'.1, wpF_mono h σ _ _ h'.2⟩) (hh w1 hb)

/-- what a new variable of type t holds: the cells c -/
def AllocRuns (P : Program) (t : TypeId) (c : Array Value) : Prop := ∀ w, (Instr.alloc t true (.tuple #[])).run P w = .ok (ptrTo w.heap.size) (w.alloc (.cells c t))

theorem alloc_of {t : TypeId} {c : Array Value} (h : AllocRuns P t c) (o : Oper) (ho : o.op = .alloc t) (ρ : Operand → Value) (w : World) :
    (execOp ρ o).run P w = .ok (.value (ptrTo w.heap.size)) (w.alloc (.cells c t)) := by
  unfold execOp
  rw [ho]
  show (do pure (Next.value (← Instr.alloc t true (.tuple #[]))) : Sem Next).run P w = _
  rw [Sem.run_bind, h w]
  rfl

/-- one new variable -/
theorem wp_region_float1 {id : Nat} {a : Act} {w : World} {l : List Oper} (n i : Nat) (σ : List (Bool × Nat)) {o : Oper} {d : Tmp} {t : TypeId} {c : Array Value} (hm : P.follows .mixedOrders = true)
    (hB : (Region.noSelect l.toArray && headB .any l.toArray n && decide (σ.length + [i].length = n) && decide (n ≤ l.length) && floatB l.toArray n [i] &&
      schedB .any l.toArray n σ ((List.range l.length).map (fun k => [i].contains k)).toArray) = true)
    (hQ : ∀ c a d v w, Q (.panic c) (Act.put a d v) w ↔ Q (.panic c) a w) (ho : l[i]? = some o) (hop : o.op = .alloc t) (hd : o.dst = some d) (hr : AllocRuns P t c)
    (h : wpF P l.toArray w Q (fun a w' => ∀ w1, Below w'.heap.size w' w1 → Below w.heap.size w w1 → ∀ b, w.heap.size ≤ b → w1.heap[b]? = some (.cells c t) → wpList P l.toArray Q (l.drop n) (a.put (some d) (ptrTo b)) w1) σ a w.drew) :
    (Code.region id l.toArray true).wp P Q a w := by
  refine wp_region_float n [i] (fun _ => .cells c t) σ hm hB hQ (fun k hk oi hoi ρ w => ?_) (wpF_mono (fun a w' h' w1 hb1 hb2 β hg => ?_) _ _ _ h)
  · obtain rfl : k = i := by simpa using hk
    obtain rfl : o = oi := Option.some.inj (ho.symm.trans hoi)
    exact alloc_of hr o hop ρ w
  · have h1 := hg.1 i (List.mem_singleton.2 rfl)
    have e : puts l.toArray β [i] a = a.put (some d) (ptrTo (β i)) := by
      show a.put (dstOf l.toArray i) _ = _
      simp [dstOf, ho, hd]
    rw [e]
    exact h' w1 hb1 hb2 _ h1.1 h1.2

end
end Go.Proofs.Ytdlpfiiakmhnlaa

namespace Go.Proofs.Ytdlpfiiakmhnlaa
open Go Go.RowKit

section
variable {P : Program} {ops : Array Oper} {Q : Exit → Act → World → Prop} {md : Region.Mode} {W : World}

/-- the class of worlds, until number j0 has come up -/
def ClsAt (C : World → Prop) (j0 : Nat) (listed : Array Bool) (w : World) : Prop := C w ∨ listed.getD j0 false = true

def wpAnyHS (P : Program) (md : Region.Mode) (ops : Array Oper) (Q : Exit → Act → World → Prop) (C : World → Prop) (j0 : Nat) (L : Array Bool → Act → World → Prop) : Nat → Array Bool → Act → World → Prop
  | 0, listed, a, w => L listed a w
  | f + 1, listed, a, w => Region.ready md ops listed ≠ [] ∧ ∀ i ∈ Region.ready md ops listed, wpOp P ops Q i (fun a' w' => ClsAt C j0 (listed.setIfInBounds i true) w' ∧ wpAnyHS P md ops Q C j0 L f (listed.setIfInBounds i true) a' w') a w

theorem wpAny_of_HS {C : World → Prop} {j0 g : Nat} {L : Array Bool → Act → World → Prop} (hL : ∀ listed a w, L listed a w → wpAny P md ops Q g listed a w) :
    ∀ (f : Nat) (listed : Array Bool) (a : Act) (w : World), wpAnyHS P md ops Q C j0 L f listed a w → wpAny P md ops Q (f + g) listed a w
  | 0, listed, a, w, h => by rw [Nat.zero_add]; exact hL _ _ _ h
  | f + 1, listed, a, w, h => by
    rw [show f + 1 + g = (f + g) + 1 by omega]
    exact ⟨fun h0 => absurd h0 h.1, fun i hi => wpOp_mono (fun a' w' h' => wpAny_of_HS hL f _ a' w' h'.2) (h.2 i hi)⟩

theorem HeadInv.all {listed : Array Bool} (h : HeadInv md ops ops.size listed) {i : Nat} (hi : i ∈ Region.ready md ops listed) : HeadInv md ops ops.size (listed.setIfInBounds i true) := by
  obtain ⟨_, o, ho, _⟩ := mem_ready.1 hi
  exact h.set hi (Array.getElem?_eq_some_iff.1 ho).1

theorem wpAnyHS_first {C D : World → Prop} {j0 i : Nat} {oi : Oper} {v : Value} {L : Array Bool → Act → World → Prop} (hi : ops[i]? = some oi) (hsel : ∀ (j : Nat) (o : Oper) cs b, ops[j]? = some o → o.op ≠ .select cs b)
    (hQ : ∀ c a d v w, Q (.panic c) (Act.put a d v) w → Q (.panic c) a w)
    (hij : i ≠ j0) (hD : ∀ listed w, HeadInv md ops ops.size listed → listed.getD i true = false → ClsAt C j0 listed w → D w)
    (hdone : ∀ listed a w, L listed a w → Region.ready md ops listed = []) :
    ∀ (f : Nat) (listed : Array Bool) (a : Act) (w : World), HeadInv md ops ops.size listed →
      (∀ j oj, ops[j]? = some oj → j ≠ i → listed.getD j true = false → (∀ e ∈ oj.after, Region.binds md e = true → e.on ≠ i) → oi.apart ops oj = true) →
      i ∈ Region.ready md ops listed → YieldsIf P ops D oi v a → ClsAt C j0 listed w →
      wpAnyHS P md ops Q C j0 L f (listed.setIfInBounds i true) (a.put oi.dst v) w → wpAnyHS P md ops Q C j0 L (f + 1) listed a w := by
 intro f
 have cls : ∀ (listed : Array Bool) (w : World), ClsAt C j0 listed w → ClsAt C j0 (listed.setIfInBounds i true) w := fun listed w h => h.imp id getD_set_true
 induction f with
 | zero =>
  intro listed a w inv _ hr hy hC H
  have hun := (mem_ready.1 hr).1
  refine ⟨fun h => (by rw [h] at hr; cases hr), fun j hj => ?_⟩
  by_cases hji : j = i
  ·subst hji; exact hy.wpOp hi (hD _ _ inv hun hC) ⟨cls _ _ hC, H⟩
  ·have h1 := hdone _ _ _ H
   have h2 := ready_mono hj hji
   rw [h1] at h2
   cases h2
 | succ f ih =>
  intro listed a w inv hfree hr hy hC H
  have hun := (mem_ready.1 hr).1
  refine ⟨fun h => (by rw [h] at hr; cases hr), fun j hj => ?_⟩
  by_cases hji : j = i
  ·subst hji; exact hy.wpOp hi (hD _ _ inv hun hC) ⟨cls _ _ hC, H⟩
  ·have h1 := H.2 j (ready_mono hj hji)
   obtain ⟨hjun, oj, hoj, hall⟩ := mem_ready.1 hj
   have hnot : ∀ e ∈ oj.after, Region.binds md e = true → e.on ≠ i := fun e he hb heq => by
    have h1 := hall e he hb
    rw [heq, getD_both hun] at h1
    cases h1
   have h2 := wpOp_putIf hoj (hfree j oj hoj hji hjun hnot) (fun cs b => hsel i oi cs b hi) (fun cs b => hsel j oj cs b hoj) (fun c a w => hQ c _ _ _ w) hy h1
   have hfree' : ∀ k ok, ops[k]? = some ok → k ≠ i → (listed.setIfInBounds j true).getD k true = false →
     (∀ e ∈ ok.after, Region.binds md e = true → e.on ≠ i) → oi.apart ops ok = true := fun k ok hk hki hun hno => by
    refine hfree k ok hk hki ?_ hno
    by_cases hjk : j = k
    ·subst hjk; exact hjun
    ·rw [getD_set_ne true hjk] at hun; exact hun
   refine wpOp_mono (fun a' w' h3 => ?_) h2
   have hc : ClsAt C j0 (listed.setIfInBounds j true) w' := by
    rcases h3.2.1 with h | h
    ·exact .inl h
    ·rw [Array.setIfInBounds_comm _ _ (Ne.symm hji)] at h
     rw [getD_set_ne false hij] at h; exact .inr h
   refine ⟨hc, ih (listed.setIfInBounds j true) a' w' (HeadInv.all inv hj) hfree' (ready_mono hr (Ne.symm hji)) h3.1 hc ?_⟩
   rw [Array.setIfInBounds_comm _ _ hji]
   exact h3.2.2

/-- the walk by a schedule: (0, i): it only reads or computes, in any world of the class; (2, i): it only computes; (1, i): it comes up alone, the class holds behind it; (3, i): it comes up alone -/
def wpG (P : Program) (ops : Array Oper) (C : World → Prop) (Q : Exit → Act → World → Prop) : List (Nat × Nat) → Act → World → Prop
  | [], a, w => Q .normal a w
  | (0, i) :: σ, a, w => ∃ o v, ops[i]? = some o ∧ YieldsIf P ops C o v a ∧ wpG P ops C Q σ (a.put o.dst v) w
  | (2, i) :: σ, a, w => ∃ o v, ops[i]? = some o ∧ YieldsIf P ops (fun _ => True) o v a ∧ wpG P ops C Q σ (a.put o.dst v) w
  | (1, i) :: σ, a, w => wpOp P ops Q i (fun a' w' => C w' ∧ wpG P ops C Q σ a' w') a w
  | (_, i) :: σ, a, w => wpOp P ops Q i (fun a' w' => wpG P ops C Q σ a' w') a w

/-- does number j wait for number i, by way of some others? -/
def waitsN (md : Region.Mode) (ops : Array Oper) : Nat → Nat → Nat → Bool
  | 0, j, i => Region.waitsFor md ops j i
  | n + 1, j, i => Region.waitsFor md ops j i || (List.range ops.size).any fun m => Region.waitsFor md ops j m && waitsN md ops n m i

theorem waits_listed {listed : Array Bool} {j i : Nat} (inv : HeadInv md ops ops.size listed) (hw : Region.waitsFor md ops j i = true) (h : listed.getD j false = true) : listed.getD i false = true := by
  obtain ⟨o, ho, e, he, hb, hon⟩ := Region.waitsFor_spec hw
  have h2 := inv.closed j o ho h e he hb
  rw [hon] at h2
  exact h2
theorem waitsN_listed {listed : Array Bool} (inv : HeadInv md ops ops.size listed) : ∀ (n j i : Nat), waitsN md ops n j i = true → listed.getD j false = true → listed.getD i false = true
  | 0, j, i, hw, h => waits_listed inv hw h
  | n + 1, j, i, hw, h => by
    unfold waitsN at hw
    rw [Bool.or_eq_true] at hw
    rcases hw with hw | hw
    · exact waits_listed inv hw h
    · obtain ⟨m, _, hm⟩ := List.any_eq_true.1 hw
      rw [Bool.and_eq_true] at hm
      exact waitsN_listed inv n m i hm.2 (waits_listed inv hm.1 h)

/-- does one item of the schedule fit the edges? -/
def itemB (md : Region.Mode) (ops : Array Oper) (j0 k i : Nat) (listed : Array Bool) : Bool :=
  match k with
  | 0 => i != j0 && (waitsN md ops 2 j0 i || decide (ops.size ≤ j0)) && (Region.ready md ops listed).contains i && Region.free md ops listed i
  | 2 => i != j0 && (Region.ready md ops listed).contains i && Region.free md ops listed i
  | 1 => i != j0 && decide (Region.ready md ops listed = [i])
  | _ => (i == j0 || listed.getD j0 false) && decide (Region.ready md ops listed = [i])

def schedG (md : Region.Mode) (ops : Array Oper) (j0 : Nat) : List (Nat × Nat) → Array Bool → Bool
  | [], listed => decide (Region.ready md ops listed = [])
  | (k, i) :: σ, listed => itemB md ops j0 k i listed && schedG md ops j0 σ (listed.setIfInBounds i true)

theorem cls_of {C : World → Prop} {j0 i : Nat} {listed : Array Bool} {w : World} (hw : (waitsN md ops 2 j0 i || decide (ops.size ≤ j0)) = true) (inv : HeadInv md ops ops.size listed) (hun : listed.getD i true = false)
    (h : ClsAt C j0 listed w) : C w := by
  rcases h with h | h
  · exact h
  · rw [Bool.or_eq_true, decide_eq_true_eq] at hw
    rcases hw with hw | hw
    · have h2 := waitsN_listed inv _ _ _ hw h
      rw [getD_both hun] at h2; cases h2
    · have : listed.getD j0 false = false := by
        have hs := inv.size
        simp [Array.getElem?_eq_none (by omega : listed.size ≤ j0)]
      rw [this] at h; cases h

theorem wpAnyHS_of_G {C : World → Prop} {j0 : Nat} (hsel : Region.noSelect ops = true) (hQ : ∀ c a d v w, Q (.panic c) (Act.put a d v) w → Q (.panic c) a w) :
    ∀ (σ : List (Nat × Nat)) (listed : Array Bool) (a : Act) (w : World), HeadInv md ops ops.size listed → schedG md ops j0 σ listed = true → ClsAt C j0 listed w → wpG P ops C Q σ a w →
    wpAnyHS P md ops Q C j0 (fun listed' a' w' => Region.ready md ops listed' = [] ∧ Q .normal a' w') σ.length listed a w
  | [], listed, a, w, _, hB, _, h => ⟨by simpa [schedG] using hB, h⟩
  | (0, i) :: σ, listed, a, w, inv, hB, hC, h => by
    simp only [schedG, itemB, Bool.and_eq_true, bne_iff_ne] at hB
    obtain ⟨⟨⟨⟨hij, hw⟩, hr⟩, hf⟩, hB'⟩ := hB
    obtain ⟨o, v, ho, hy, hK⟩ := h
    have hr' : i ∈ Region.ready md ops listed := by simpa using hr
    exact wpAnyHS_first ho (Region.noSelect_spec hsel) hQ hij (fun l w il hu hc => cls_of hw il hu hc) (fun l a w hL => hL.1) σ.length listed a w inv
      (Region.free_spec ho hf) hr' hy hC (wpAnyHS_of_G hsel hQ σ _ _ _ (HeadInv.all inv hr') hB' (hC.imp id getD_set_true) hK)
  | (2, i) :: σ, listed, a, w, inv, hB, hC, h => by
    simp only [schedG, itemB, Bool.and_eq_true, bne_iff_ne] at hB
    obtain ⟨⟨⟨hij, hr⟩, hf⟩, hB'⟩ := hB
    obtain ⟨o, v, ho, hy, hK⟩ := h
    have hr' : i ∈ Region.ready md ops listed := by simpa using hr
    exact wpAnyHS_first ho (Region.noSelect_spec hsel) hQ hij (fun _ _ _ _ _ => trivial) (fun l a w hL => hL.1) σ.length listed a w inv
      (Region.free_spec ho hf) hr' hy hC (wpAnyHS_of_G hsel hQ σ _ _ _ (HeadInv.all inv hr') hB' (hC.imp id getD_set_true) hK)
  | (1, i) :: σ, listed, a, w, inv, hB, hC, h => by
    simp only [schedG, itemB, Bool.and_eq_true, decide_eq_true_eq] at hB
    obtain ⟨⟨_, hr⟩, hB'⟩ := hB
    refine ⟨by rw [hr]; simp, fun j hj => ?_⟩
    have hji : j = i := by rw [hr] at hj; simpa using hj
    subst hji
    exact wpOp_mono (fun a' w' h' => ⟨.inl h'.1, wpAnyHS_of_G hsel hQ σ _ _ _ (HeadInv.all inv hj) hB' (.inl h'.1) h'.2⟩) h
  | (k + 3, i) :: σ, listed, a, w, inv, hB, hC, h => by
    simp only [schedG, itemB, Bool.and_eq_true, decide_eq_true_eq, Bool.or_eq_true, beq_iff_eq] at hB
    obtain ⟨⟨hj0, hr⟩, hB'⟩ := hB
    refine ⟨by rw [hr]; simp, fun j hj => ?_⟩
    have hji : j = i := by rw [hr] at hj; simpa using hj
    subst hji
    have hc : ∀ w', ClsAt C j0 (listed.setIfInBounds j true) w' := by
      intro w'
      refine .inr ?_
      rcases hj0 with h | h
      · subst h
        obtain ⟨_, o, ho, _⟩ := mem_ready.1 hj
        have := (Array.getElem?_eq_some_iff.1 ho).1
        rw [getD_set (by rw [inv.size]; exact this)]; simp
      · exact getD_set_true h
    exact wpOp_mono (fun a' w' h' => ⟨hc w', wpAnyHS_of_G hsel hQ σ _ _ _ (HeadInv.all inv hj) hB' (hc w') h'⟩) h

theorem HeadInv.none : HeadInv md ops ops.size (Array.replicate ops.size false) :=
  ⟨by simp, fun j oj _ hl => (by rw [getD_replicate_false] at hl; cases hl), fun t h1 h2 => by omega⟩

theorem free_of {n n1 : Nat} {A : List Nat} {z : Nat → Obj} {ls listed : Array Bool} {D : List Nat} {β : Nat → Nat} {w : World} (s : FlSt md ops n A W z ls listed D β w) (ok : FloatOk ops n1 A) {i : Nat} {o : Oper} (hin : i < n1) (ho : ops[i]? = some o)
    (hfr : Region.free md ops ls i = true) : ∀ j oj, ops[j]? = some oj → j ≠ i → listed.getD j true = false → (∀ e ∈ oj.after, Region.binds md e = true → e.on ≠ i) → o.apart ops oj = true := by
  intro j oj hj hji hun hno
  by_cases hjA : j ∈ A
  · obtain ⟨_, oj', hoj', _, _, _, hall⟩ := ok.at_ j hjA
    obtain ⟨oi', hoi', _, _, hap⟩ := hall i hin (Ne.symm hji)
    obtain rfl : o = oi' := Option.some.inj (ho.symm.trans hoi')
    obtain rfl : oj = oj' := Option.some.inj (hj.symm.trans hoj')
    exact hap
  · have hjs : j < ops.size := (Array.getElem?_eq_some_iff.1 hj).1
    refine Region.free_spec ho hfr j oj hj hji ?_ hno
    rw [getD_tf (by rw [s.lsz]; exact hjs)]
    rw [getD_tf (by rw [s.size]; exact hjs)] at hun
    cases hl : ls.getD j false with
    | false => rfl
    | true => rw [s.sup j hl hjA] at hun; cases hun

/-- the walk by a schedule of what comes ahead of the first store, the world growing between its steps -/
def wpFG (P : Program) (ops : Array Oper) (W : World) (Q : Exit → Act → World → Prop) (T : Act → World → Prop) : List (Nat × Nat) → Act → World → Prop
  | [], a, w => T a w
  | (0, i) :: σ, a, w => ∃ o v, ops[i]? = some o ∧ YieldsIf P ops (fun w' => ∃ u : UpTo W.heap.size W, w' = u.w) o v a ∧ wpFG P ops W Q T σ (a.put o.dst v) w
  | (2, i) :: σ, a, w => ∃ o v, ops[i]? = some o ∧ YieldsIf P ops (fun _ => True) o v a ∧ wpFG P ops W Q T σ (a.put o.dst v) w
  | (_, i) :: σ, a, w => ∀ w1, Below w.heap.size w w1 → wpOp P ops Q i (fun a' w' => Below w1.heap.size w1 w' ∧ wpFG P ops W Q T σ a' w') a w1

/-- the first part of a schedule: its items lie below j0, and none of them is number j0 or comes behind it -/
def schedFG (md : Region.Mode) (ops : Array Oper) (j0 : Nat) (τ : List (Nat × Nat)) : List (Nat × Nat) → Array Bool → Bool
  | [], listed => decide (Region.ready md ops listed = [j0]) && schedG md ops j0 τ listed
  | (k, i) :: σ, listed => decide (i < j0) && (k == 0 || k == 1 || k == 2) && itemB md ops j0 k i listed && schedFG md ops j0 τ σ (listed.setIfInBounds i true)

theorem floatG_main {j0 : Nat} {A : List Nat} {z : Nat → Obj} {τ : List (Nat × Nat)} (hsel : Region.noSelect ops = true) (hQ : ∀ c a d v w, Q (.panic c) (Act.put a d v) w ↔ Q (.panic c) a w) (hj0 : j0 < ops.size)
    (ok : FloatOk ops j0 A) (hAw : ∀ i ∈ A, Region.waitsFor md ops j0 i = true) (hAl : ∀ i ∈ A, ∀ oi, ops[i]? = some oi → ∀ ρ w, (execOp ρ oi).run P w = .ok (.value (ptrTo w.heap.size)) (w.alloc (z i))) :
    ∀ (f : Nat) (σ : List (Nat × Nat)) (D : List Nat) (β : Nat → Nat) (a0 : Act) (w0 w : World) (ls listed : Array Bool), σ.length + (A.length - D.length) = f → FlSt md ops ops.size A W z ls listed D β w →
      schedFG md ops j0 τ σ ls = true → Below w0.heap.size w0 w → wpFG P ops W Q (fun a w => ∀ w1, Below w.heap.size w w1 → Below W.heap.size W w1 → ∀ β, Good W z β A w1 → wpG P ops (fun w' => ∃ u : UpTo W.heap.size W, w' = u.w) Q τ (puts ops β A a) w1) σ a0 w0 →
      wpAnyHS P md ops Q (fun w' => ∃ u : UpTo W.heap.size W, w' = u.w) j0 (fun listed' a' w' => Region.ready md ops listed' = [] ∧ Q .normal a' w') (f + τ.length) listed (puts ops β D a0) w := by
 intro f
 have fin : ∀ (D : List Nat) (β : Nat → Nat) (a0 : Act) (w0 w : World) (ls listed : Array Bool), A.length ≤ D.length → FlSt md ops ops.size A W z ls listed D β w → schedG md ops j0 τ ls = true → Below w0.heap.size w0 w →
   (∀ w1, Below w0.heap.size w0 w1 → Below W.heap.size W w1 → ∀ β, Good W z β A w1 → wpG P ops (fun w' => ∃ u : UpTo W.heap.size W, w' = u.w) Q τ (puts ops β A a0) w1) →
   wpAnyHS P md ops Q (fun w' => ∃ u : UpTo W.heap.size W, w' = u.w) j0 (fun listed' a' w' => Region.ready md ops listed' = [] ∧ Q .normal a' w') τ.length listed (puts ops β D a0) w := by
  intro D β a0 w0 w ls listed hlen s hB hb h
  have hp : D.Perm A := nodup_perm s.dn s.da hlen
  have e : listed = ls := by
   refine Array.ext (s.size.trans s.lsz.symm) fun i h1 h2 => ?_
   have e1 : listed.getD i false = listed[i] := by simp [h1]
   have e2 : ls.getD i false = ls[i] := by simp [h2]
   rw [← e1, ← e2, Bool.eq_iff_iff]
   refine ⟨s.sub i, fun hi => ?_⟩
   by_cases hA : i ∈ A
   ·exact (s.flo i hA).2 (hp.mem_iff.2 hA)
   ·exact s.sup i hi hA
  rw [puts_perm ok β a0 s.da hp, e]
  exact wpAnyHS_of_G hsel (fun c a d v w => (hQ c a d v w).1) τ ls _ w (e ▸ s.inv) hB (.inl (up_iff.2 s.cw)) (h w hb s.cw β ⟨fun i hi => s.good.1 i (hp.mem_iff.2 hi), fun i hi j hj => s.good.2 i (hp.mem_iff.2 hi) j (hp.mem_iff.2 hj)⟩)
 induction f with
 | zero =>
  intro σ D β a0 w0 w ls listed hf s hB hb h
  have hσ : σ = [] := List.length_eq_zero_iff.1 (by omega)
  subst hσ
  simp only [schedFG, Bool.and_eq_true] at hB
  rw [Nat.zero_add]
  exact fin D β a0 w0 w ls listed (by simp only [List.length_nil] at hf; omega) s hB.2 hb h
 | succ f ih =>
  intro σ D β a0 w0 w ls listed hf s hB hb h
  rw [show f + 1 + τ.length = (f + τ.length) + 1 by omega]
  have allocs : ∀ i, i ∈ A → i ∉ D → wpOp P ops Q i (fun a' w' => ClsAt (fun w' => ∃ u : UpTo W.heap.size W, w' = u.w) j0 (listed.setIfInBounds i true) w' ∧ wpAnyHS P md ops Q (fun w' => ∃ u : UpTo W.heap.size W, w' = u.w) j0 (fun listed' a' w' => Region.ready md ops listed' = [] ∧ Q .normal a' w') (f + τ.length) (listed.setIfInBounds i true) a' w') (puts ops β D a0) w := by
   intro i hA hD
   refine made_step ok hAl hA hD ?_
   have s' := s.made ok (Nat.le_of_lt hj0) hA hD
   refine ⟨.inl (up_iff.2 s'.cw), ih σ (i :: D) _ a0 w0 (w.alloc (z i)) ls _ ?_ s' hB (hb.alloc hb.size _) h⟩
   have hle : (i :: D).length ≤ A.length := nodup_le (List.nodup_cons.2 ⟨hD, s.dn⟩) s'.da
   simp only [List.length_cons] at hle ⊢
   omega
  match σ, hf, hB, h with
  | [], hf, hB, h =>
   simp only [schedFG, Bool.and_eq_true, decide_eq_true_eq] at hB
   have hpend : ∃ i, i ∈ A ∧ i ∉ D := by
    refine Classical.byContradiction fun hno => ?_
    have hsub : ∀ i ∈ A, i ∈ D := fun i hi => Classical.byContradiction fun h' => hno ⟨i, hi, h'⟩
    have := nodup_le ok.nodup hsub
    simp only [List.length_nil] at hf; omega
   obtain ⟨i, hA, hD⟩ := hpend
   have hri := s.pending ok hA hD
   refine ⟨fun h0 => (by rw [h0] at hri; cases hri), fun j hj => ?_⟩
   rcases s.ready hj with ⟨h1, h2⟩ | ⟨_, h2⟩
   ·exact allocs j h1 h2
   ·rw [hB.1] at h2
    have hjj : j = j0 := by simpa using h2
    subst hjj
    obtain ⟨o, ho, e, he, hbd, hon⟩ := Region.waitsFor_spec (hAw i hA)
    obtain ⟨_, o', ho', hall⟩ := mem_ready.1 hj
    obtain rfl : o = o' := Option.some.inj (ho.symm.trans ho')
    have h3 := hall e he hbd
    rw [hon] at h3
    exact absurd ((s.flo i hA).1 h3) hD
  | (0, i) :: σ, hf, hB, h =>
   simp only [schedFG, itemB, Bool.and_eq_true, decide_eq_true_eq, bne_iff_ne] at hB
   obtain ⟨⟨⟨hin, _⟩, ⟨⟨hij, hw⟩, hr⟩, hfr⟩, hB'⟩ := hB
   obtain ⟨o, v, ho, hy, hK⟩ := h
   have hr' : i ∈ Region.ready md ops ls := by simpa using hr
   obtain ⟨hiA, hrl⟩ := s.ready_of ok hin hr'
   have hsj := Region.noSelect_spec hsel i o
   refine wpAnyHS_first ho (Region.noSelect_spec hsel) (fun c a d v w => (hQ c a d v w).1) hij (fun l w il hu hc => cls_of hw il hu hc) (fun l a w hL => hL.1) _ listed _ w s.inv
    (free_of s ok hin ho hfr) hrl (puts_yields ok β ho hin hiA (fun cs b => hsj cs b ho) a0 hy D s.da) (.inl (up_iff.2 s.cw)) ?_
   rw [puts_put ok β ho hin hiA v a0 D s.da]
   exact ih σ D β _ w0 w _ _ (by simp only [List.length_cons] at hf; omega) (s.step (Nat.lt_trans hin hj0) hiA hrl (Below.refl _ _)) hB' hb hK
  | (2, i) :: σ, hf, hB, h =>
   simp only [schedFG, itemB, Bool.and_eq_true, decide_eq_true_eq, bne_iff_ne] at hB
   obtain ⟨⟨⟨hin, _⟩, ⟨hij, hr⟩, hfr⟩, hB'⟩ := hB
   obtain ⟨o, v, ho, hy, hK⟩ := h
   have hr' : i ∈ Region.ready md ops ls := by simpa using hr
   obtain ⟨hiA, hrl⟩ := s.ready_of ok hin hr'
   have hsj := Region.noSelect_spec hsel i o
   refine wpAnyHS_first ho (Region.noSelect_spec hsel) (fun c a d v w => (hQ c a d v w).1) hij (fun _ _ _ _ _ => trivial) (fun l a w hL => hL.1) _ listed _ w s.inv
    (free_of s ok hin ho hfr) hrl (puts_yields ok β ho hin hiA (fun cs b => hsj cs b ho) a0 hy D s.da) (.inl (up_iff.2 s.cw)) ?_
   rw [puts_put ok β ho hin hiA v a0 D s.da]
   exact ih σ D β _ w0 w _ _ (by simp only [List.length_cons] at hf; omega) (s.step (Nat.lt_trans hin hj0) hiA hrl (Below.refl _ _)) hB' hb hK
  | (1, i) :: σ, hf, hB, h =>
   simp only [schedFG, itemB, Bool.and_eq_true, decide_eq_true_eq, bne_iff_ne] at hB
   obtain ⟨⟨⟨hin, _⟩, hij, hr⟩, hB'⟩ := hB
   obtain ⟨hiA, hrl⟩ := s.ready_of ok hin (by rw [hr]; simp : i ∈ Region.ready md ops ls)
   refine ⟨fun h0 => (by rw [h0] at hrl; cases hrl), fun j hj => ?_⟩
   rcases s.ready hj with ⟨h1, h2⟩ | ⟨_, h2⟩
   ·exact allocs j h1 h2
   ·have hji : j = i := by rw [hr] at h2; simpa using h2
    subst hji
    obtain ⟨_, o, ho, _⟩ := mem_ready.1 hrl
    have hsj := Region.noSelect_spec hsel j o
    refine wpOp_mono (fun a' w' h' => ?_) (wpOp_at_puts ok β ho hin hiA (fun cs b => hsj cs b ho) hQ D s.da (h w hb))
    obtain ⟨a1, rfl, hb1, hK⟩ := h'
    have s' := s.step (Nat.lt_trans hin hj0) hiA hrl hb1
    exact ⟨.inl (up_iff.2 s'.cw), ih σ D β a1 w' w' _ _ (by simp only [List.length_cons] at hf; omega) s' hB' (Below.refl _ _) hK⟩
  | (k + 3, i) :: σ, hf, hB, h =>
   simp only [schedFG, Bool.and_eq_true] at hB
   obtain ⟨⟨⟨_, hk⟩, _⟩, _⟩ := hB
   simp at hk


theorem wpFG_mono {T T' : Act → World → Prop} (h : ∀ a w, T a w → T' a w) : ∀ (σ : List (Nat × Nat)) (a : Act) (w : World), wpFG P ops W Q T σ a w → wpFG P ops W Q T' σ a w
  | [], _, _, hh => h _ _ hh
  | (0, _) :: σ, _, _, ⟨o, v, h1, h2, h3⟩ => ⟨o, v, h1, h2, wpFG_mono h σ _ _ h3⟩
  | (2, _) :: σ, _, _, ⟨o, v, h1, h2, h3⟩ => ⟨o, v, h1, h2, wpFG_mono h σ _ _ h3⟩
  | (1, _) :: σ, _, _, hh => fun w1 hb => wpOp_mono (fun _ _ h' => ⟨h'.1, wpFG_mono h σ _ _ h'.2⟩) (hh w1 hb)
  | (_ + 3, _) :: σ, _, _, hh => fun w1 hb => wpOp_mono (fun _ _ h' => ⟨h'.1, wpFG_mono h σ _ _ h'.2⟩) (hh w1 hb)

/-- THE LAW: new variables A, and several stores. -/
theorem wp_region_FG {id : Nat} {a : Act} {w : World} {l : List Oper} (j0 : Nat) (A : List Nat) (z : Nat → Obj) (σ τ : List (Nat × Nat)) (hm : P.follows .mixedOrders = true)
    (hB : (Region.noSelect l.toArray && decide (σ.length + A.length + τ.length = l.length) && decide (j0 < l.length) && floatB l.toArray j0 A && (A.all fun i => Region.waitsFor .any l.toArray j0 i) &&
      schedFG .any l.toArray j0 τ σ ((List.range l.length).map (fun i => A.contains i)).toArray) = true)
    (hQ : ∀ c a d v w, Q (.panic c) (Act.put a d v) w ↔ Q (.panic c) a w)
    (hAl : ∀ i ∈ A, ∀ oi, l[i]? = some oi → ∀ ρ w, (execOp ρ oi).run P w = .ok (.value (ptrTo w.heap.size)) (w.alloc (z i)))
    (h : wpFG P l.toArray w Q (fun a w' => ∀ w1, Below w'.heap.size w' w1 → Below w.heap.size w w1 → ∀ β, Good w z β A w1 → wpG P l.toArray (fun w' => ∃ u : UpTo w.heap.size w, w' = u.w) Q τ (puts l.toArray β A a) w1) σ a w.drew) : (Code.region id l.toArray true).wp P Q a w := by
 simp only [Bool.and_eq_true, decide_eq_true_eq] at hB
 obtain ⟨⟨⟨⟨⟨hsel, hlen⟩, hj⟩, hfl⟩, hw⟩, hs⟩ := hB
 have ok := floatB_ok hfl
 have hls : ∀ j, ((List.range l.length).map (fun i => A.contains i)).toArray.getD j false = true ↔ j ∈ A ∧ j < l.length := by
  intro j
  by_cases hj : j < l.length
  ·simp [hj]
  ·simp [hj]
 have s0 : FlSt .any l.toArray l.toArray.size A w z ((List.range l.length).map (fun i => A.contains i)).toArray (Array.replicate l.toArray.size false) [] (fun _ => 0) w.drew := by
  refine ⟨by simp, by simp, fun j hj => (by rw [getD_replicate_false] at hj; cases hj), fun j hj hA => absurd ((hls j).1 hj).1 hA, fun j _ => ?_, fun i hi => ?_, HeadInv.none, List.nodup_nil, fun i hi => (by cases hi), (Below.refl _ _).drew, fun i hi => (by cases hi), fun i hi => (by cases hi)⟩
  ·rw [getD_replicate_false]; simp
  ·obtain ⟨_, oi, hoi, _⟩ := ok.at_ i hi
   have := (Array.getElem?_eq_some_iff.1 hoi).1
   exact (hls i).2 ⟨hi, by simpa using this⟩
 have H := floatG_main (τ := τ) hsel hQ (by simpa using hj) ok (fun i hi => List.all_eq_true.1 hw i hi) (fun i hi oi ho => hAl i hi oi (by simpa using ho)) _ σ [] (fun _ => 0) a w.drew w.drew _ _ rfl s0 hs (Below.refl _ _) h
 refine wp_region_any hm ?_
 have := wpAny_of_HS (g := 0) (fun listed a' w' hL => (⟨hL.1, hL.2⟩ : wpAny P .any l.toArray Q 0 listed a' w')) _ _ _ _ H
 have e : σ.length + (A.length - ([] : List Nat).length) + τ.length + 0 = l.toArray.size := by simp; omega
 rw [e] at this
 exact this

/-- two new variables, several stores -/
theorem wp_region_FG2 {id : Nat} {a : Act} {w : World} {l : List Oper} (j0 i j : Nat) (σ τ : List (Nat × Nat)) {o o' : Oper} {d d' : Tmp} {t t' : TypeId} {c c' : Array Value} (hm : P.follows .mixedOrders = true)
    (hB : (Region.noSelect l.toArray && decide (σ.length + [i, j].length + τ.length = l.length) && decide (j0 < l.length) && floatB l.toArray j0 [i, j] && ([i, j].all fun i => Region.waitsFor .any l.toArray j0 i) &&
      schedFG .any l.toArray j0 τ σ ((List.range l.length).map (fun k => [i, j].contains k)).toArray) = true)
    (hQ : ∀ c a d v w, Q (.panic c) (Act.put a d v) w ↔ Q (.panic c) a w) (ho : l[i]? = some o) (hop : o.op = .alloc t) (hd : o.dst = some d) (hr : AllocRuns P t c)
    (ho' : l[j]? = some o') (hop' : o'.op = .alloc t') (hd' : o'.dst = some d') (hr' : AllocRuns P t' c') (hij : (i == j) = false)
    (h : wpFG P l.toArray w Q (fun a w' => ∀ w1, Below w'.heap.size w' w1 → Below w.heap.size w w1 → ∀ b b', b ≠ b' → w.heap.size ≤ b → w1.heap[b]? = some (.cells c t) → w.heap.size ≤ b' → w1.heap[b']? = some (.cells c' t') →
      wpG P l.toArray (fun w' => ∃ u : UpTo w.heap.size w, w' = u.w) Q τ ((a.put (some d') (ptrTo b')).put (some d) (ptrTo b)) w1) σ a w.drew) :
    (Code.region id l.toArray true).wp P Q a w := by
  have hij : i ≠ j := by simpa using hij
  refine wp_region_FG j0 [i, j] (fun k => if k = i then .cells c t else .cells c' t') σ τ hm hB hQ (fun k hk oi hoi ρ w => ?_) (wpFG_mono (fun a w' h' w1 hb1 hb2 β hg => ?_) _ _ _ h)
  · rcases List.mem_cons.1 hk with rfl | hk
    · obtain rfl : o = oi := Option.some.inj (ho.symm.trans hoi)
      rw [if_pos rfl]; exact alloc_of hr o hop ρ w
    · obtain rfl : k = j := by simpa using hk
      obtain rfl : o' = oi := Option.some.inj (ho'.symm.trans hoi)
      rw [if_neg (Ne.symm hij)]; exact alloc_of hr' o' hop' ρ w
  · have h1 := hg.1 i (by simp)
    have h2 := hg.1 j (by simp)
    simp only [if_pos] at h1
    simp only [if_neg (Ne.symm hij)] at h2
    have e : puts l.toArray β [i, j] a = (a.put (some d') (ptrTo (β j))).put (some d) (ptrTo (β i)) := by
      show (a.put (dstOf l.toArray j) _).put (dstOf l.toArray i) _ = _
      simp [dstOf, ho, hd, ho', hd']
    rw [e]
    exact h' w1 hb1 hb2 _ _ (hg.2 i (by simp) j (by simp) hij) h1.1 h1.2 h2.1 h2.2

theorem quiet_item {C : World → Prop} {l : List Oper} {o : Oper} {a : Act} {K : Act → Prop} (hp : plainOp o.op = true) (h : wpQuiet P l.toArray C K [o] a) : ∃ v, YieldsIf P l.toArray C o v a ∧ K (a.put o.dst v) := by
  unfold wpQuiet at h
  by_cases hw : Region.wanted o (yielded l.toArray a.tmps) = true
  · rw [if_pos hw] at h
    obtain ⟨v, h1, h2⟩ := h
    exact ⟨v, .inl ⟨hw, yields_of_quiet hp h1⟩, h2⟩
  · rw [if_neg hw] at h
    exact ⟨undef, .inr ⟨by simpa using hw, rfl⟩, h⟩
theorem do_item {l : List Oper} {i : Nat} {o : Oper} {a : Act} {w : World} {R : Act → World → Prop} (ho : l[i]? = some o) (h : wpList P l.toArray (Exit.then R Q) [o] a w) : wpOp P l.toArray Q i R a w := by
  have ho' : l.toArray[i]? = some o := by simpa using ho
  unfold wpOp
  simp only [ho']
  unfold wpList at h
  by_cases hw : Region.wanted o (yielded l.toArray a.tmps) = true
  · rw [if_pos hw] at h ⊢
    rcases h with h | ⟨h1, h2⟩
    · exact .inl (upon_then h)
    · exact .inr ⟨h1, h2⟩
  · rw [if_neg hw] at h ⊢
    exact h

variable {C : World → Prop} {l : List Oper} {T : Act → World → Prop} {σ : List (Nat × Nat)} {i : Nat} {o : Oper} {a : Act} {w : World}
theorem wpG_do3 (ho : l[i]? = some o) (h : ∀ K : Act → World → Prop, Hid (∀ a' w', wpG P l.toArray C Q σ a' w' → K a' w') → wpList P l.toArray (Exit.then K Q) [o] a w) : wpG P l.toArray C Q ((3, i) :: σ) a w :=
  do_item ho (h _ (fun _ _ h1 => h1))
theorem wpG_nil (h : wpList P l.toArray Q [] a w) : wpG P l.toArray C Q [] a w := h
theorem wpFG_take0 (ho : l[i]? = some o) (hp : plainOp o.op = true) (h : wpQuiet P l.toArray (fun w' => ∃ u : UpTo W.heap.size W, w' = u.w) (fun a' => wpFG P l.toArray W Q T σ a' w) [o] a) : wpFG P l.toArray W Q T ((0, i) :: σ) a w := by
  obtain ⟨v, h1, h2⟩ := quiet_item hp h
  exact ⟨o, v, by simpa using ho, h1, h2⟩
theorem wpFG_do (ho : l[i]? = some o) (h : ∀ w1, Below w.heap.size w w1 → ∀ K : Act → World → Prop, Hid (∀ a' w', Below w1.heap.size w1 w' → wpFG P l.toArray W Q T σ a' w' → K a' w') → wpList P l.toArray (Exit.then K Q) [o] a w1) : wpFG P l.toArray W Q T ((1, i) :: σ) a w :=
  fun w1 hb => do_item ho (h w1 hb _ (fun _ _ h1 h2 => ⟨h1, h2⟩))
theorem wpFG_nil (h : T a w) : wpFG P l.toArray W Q T [] a w := h

end
end Go.Proofs.Ytdlpfiiakmhnlaa
namespace Go.Proofs.Ytdlpfiiakmhnlaa.Far
open Go Go.RowKit Go.Proofs.Ytdlpfiiakmhnlaa
section
variable {P : Program} {ops : Array Oper} {Q : Exit → Act → World → Prop} {md : Region.Mode} {W : World}

/-- does one item of the schedule fit the edges? -/
def itemB (md : Region.Mode) (ops : Array Oper) (j0 k i : Nat) (listed : Array Bool) : Bool :=
  match k with
  | 0 => i != j0 && (waitsN md ops 7 j0 i || decide (ops.size ≤ j0)) && (Region.ready md ops listed).contains i && Region.free md ops listed i
  | 2 => i != j0 && (Region.ready md ops listed).contains i && Region.free md ops listed i
  | 1 => i != j0 && decide (Region.ready md ops listed = [i])
  | _ => (i == j0 || listed.getD j0 false) && decide (Region.ready md ops listed = [i])

def schedG (md : Region.Mode) (ops : Array Oper) (j0 : Nat) : List (Nat × Nat) → Array Bool → Bool
  | [], listed => decide (Region.ready md ops listed = [])
  | (k, i) :: σ, listed => itemB md ops j0 k i listed && schedG md ops j0 σ (listed.setIfInBounds i true)

theorem cls_of {C : World → Prop} {j0 i : Nat} {listed : Array Bool} {w : World} (hw : (waitsN md ops 7 j0 i || decide (ops.size ≤ j0)) = true) (inv : HeadInv md ops ops.size listed) (hun : listed.getD i true = false)
    (h : ClsAt C j0 listed w) : C w := by
  rcases h with h | h
  · exact h
  · rw [Bool.or_eq_true, decide_eq_true_eq] at hw
    rcases hw with hw | hw
    · have h2 := waitsN_listed inv _ _ _ hw h
      rw [getD_both hun] at h2; cases h2
    · have : listed.getD j0 false = false := by
        have hs := inv.size
        simp [Array.getElem?_eq_none (by omega : listed.size ≤ j0)]
      rw [this] at h; cases h

theorem wpAnyHS_of_G {C : World → Prop} {j0 : Nat} (hsel : Region.noSelect ops = true) (hQ : ∀ c a d v w, Q (.panic c) (Act.put a d v) w → Q (.panic c) a w) :
    ∀ (σ : List (Nat × Nat)) (listed : Array Bool) (a : Act) (w : World), HeadInv md ops ops.size listed → schedG md ops j0 σ listed = true → ClsAt C j0 listed w → wpG P ops C Q σ a w →
    wpAnyHS P md ops Q C j0 (fun listed' a' w' => Region.ready md ops listed' = [] ∧ Q .normal a' w') σ.length listed a w
  | [], listed, a, w, _, hB, _, h => ⟨by simpa [schedG] using hB, h⟩
  | (0, i) :: σ, listed, a, w, inv, hB, hC, h => by
    simp only [schedG, itemB, Bool.and_eq_true, bne_iff_ne] at hB
    obtain ⟨⟨⟨⟨hij, hw⟩, hr⟩, hf⟩, hB'⟩ := hB
    obtain ⟨o, v, ho, hy, hK⟩ := h
    have hr' : i ∈ Region.ready md ops listed := by simpa using hr
    exact wpAnyHS_first ho (Region.noSelect_spec hsel) hQ hij (fun l w il hu hc => cls_of hw il hu hc) (fun l a w hL => hL.1) σ.length listed a w inv
      (Region.free_spec ho hf) hr' hy hC (wpAnyHS_of_G hsel hQ σ _ _ _ (HeadInv.all inv hr') hB' (hC.imp id getD_set_true) hK)
  | (2, i) :: σ, listed, a, w, inv, hB, hC, h => by
    simp only [schedG, itemB, Bool.and_eq_true, bne_iff_ne] at hB
    obtain ⟨⟨⟨hij, hr⟩, hf⟩, hB'⟩ := hB
    obtain ⟨o, v, ho, hy, hK⟩ := h
    have hr' : i ∈ Region.ready md ops listed := by simpa using hr
    exact wpAnyHS_first ho (Region.noSelect_spec hsel) hQ hij (fun _ _ _ _ _ => trivial) (fun l a w hL => hL.1) σ.length listed a w inv
      (Region.free_spec ho hf) hr' hy hC (wpAnyHS_of_G hsel hQ σ _ _ _ (HeadInv.all inv hr') hB' (hC.imp id getD_set_true) hK)
  | (1, i) :: σ, listed, a, w, inv, hB, hC, h => by
    simp only [schedG, itemB, Bool.and_eq_true, decide_eq_true_eq] at hB
    obtain ⟨⟨_, hr⟩, hB'⟩ := hB
    refine ⟨by rw [hr]; simp, fun j hj => ?_⟩
    have hji : j = i := by rw [hr] at hj; simpa using hj
    subst hji
    exact wpOp_mono (fun a' w' h' => ⟨.inl h'.1, wpAnyHS_of_G hsel hQ σ _ _ _ (HeadInv.all inv hj) hB' (.inl h'.1) h'.2⟩) h
  | (k + 3, i) :: σ, listed, a, w, inv, hB, hC, h => by
    simp only [schedG, itemB, Bool.and_eq_true, decide_eq_true_eq, Bool.or_eq_true, beq_iff_eq] at hB
    obtain ⟨⟨hj0, hr⟩, hB'⟩ := hB
    refine ⟨by rw [hr]; simp, fun j hj => ?_⟩
    have hji : j = i := by rw [hr] at hj; simpa using hj
    subst hji
    have hc : ∀ w', ClsAt C j0 (listed.setIfInBounds j true) w' := by
      intro w'
      refine .inr ?_
      rcases hj0 with h | h
      · subst h
        obtain ⟨_, o, ho, _⟩ := mem_ready.1 hj
        have := (Array.getElem?_eq_some_iff.1 ho).1
        rw [getD_set (by rw [inv.size]; exact this)]; simp
      · exact getD_set_true h
    exact wpOp_mono (fun a' w' h' => ⟨hc w', wpAnyHS_of_G hsel hQ σ _ _ _ (HeadInv.all inv hj) hB' (hc w') h'⟩) h

/-- the first part of a schedule: its items lie below j0, and none of them is number j0 or comes behind it -/
def schedFG (md : Region.Mode) (ops : Array Oper) (j0 : Nat) (τ : List (Nat × Nat)) : List (Nat × Nat) → Array Bool → Bool
  | [], listed => decide (Region.ready md ops listed = [j0]) && schedG md ops j0 τ listed
  | (k, i) :: σ, listed => decide (i < j0) && (k == 0 || k == 1 || k == 2) && itemB md ops j0 k i listed && schedFG md ops j0 τ σ (listed.setIfInBounds i true)

theorem floatG_main {j0 : Nat} {A : List Nat} {z : Nat → Obj} {τ : List (Nat × Nat)} (hsel : Region.noSelect ops = true) (hQ : ∀ c a d v w, Q (.panic c) (Act.put a d v) w ↔ Q (.panic c) a w) (hj0 : j0 < ops.size)
    (ok : FloatOk ops j0 A) (hAw : ∀ i ∈ A, Region.waitsFor md ops j0 i = true) (hAl : ∀ i ∈ A, ∀ oi, ops[i]? = some oi → ∀ ρ w, (execOp ρ oi).run P w = .ok (.value (ptrTo w.heap.size)) (w.alloc (z i))) :
    ∀ (f : Nat) (σ : List (Nat × Nat)) (D : List Nat) (β : Nat → Nat) (a0 : Act) (w0 w : World) (ls listed : Array Bool), σ.length + (A.length - D.length) = f → FlSt md ops ops.size A W z ls listed D β w →
      schedFG md ops j0 τ σ ls = true → Below w0.heap.size w0 w → wpFG P ops W Q (fun a w => ∀ w1, Below w.heap.size w w1 → Below W.heap.size W w1 → ∀ β, Good W z β A w1 → wpG P ops (fun w' => ∃ u : UpTo W.heap.size W, w' = u.w) Q τ (puts ops β A a) w1) σ a0 w0 →
      wpAnyHS P md ops Q (fun w' => ∃ u : UpTo W.heap.size W, w' = u.w) j0 (fun listed' a' w' => Region.ready md ops listed' = [] ∧ Q .normal a' w') (f + τ.length) listed (puts ops β D a0) w := by
 intro f
 have fin : ∀ (D : List Nat) (β : Nat → Nat) (a0 : Act) (w0 w : World) (ls listed : Array Bool), A.length ≤ D.length → FlSt md ops ops.size A W z ls listed D β w → schedG md ops j0 τ ls = true → Below w0.heap.size w0 w →
   (∀ w1, Below w0.heap.size w0 w1 → Below W.heap.size W w1 → ∀ β, Good W z β A w1 → wpG P ops (fun w' => ∃ u : UpTo W.heap.size W, w' = u.w) Q τ (puts ops β A a0) w1) →
   wpAnyHS P md ops Q (fun w' => ∃ u : UpTo W.heap.size W, w' = u.w) j0 (fun listed' a' w' => Region.ready md ops listed' = [] ∧ Q .normal a' w') τ.length listed (puts ops β D a0) w := by
  intro D β a0 w0 w ls listed hlen s hB hb h
  have hp : D.Perm A := nodup_perm s.dn s.da hlen
  have e : listed = ls := by
   refine Array.ext (s.size.trans s.lsz.symm) fun i h1 h2 => ?_
   have e1 : listed.getD i false = listed[i] := by simp [h1]
   have e2 : ls.getD i false = ls[i] := by simp [h2]
   rw [← e1, ← e2, Bool.eq_iff_iff]
   refine ⟨s.sub i, fun hi => ?_⟩
   by_cases hA : i ∈ A
   ·exact (s.flo i hA).2 (hp.mem_iff.2 hA)
   ·exact s.sup i hi hA
  rw [puts_perm ok β a0 s.da hp, e]
  exact wpAnyHS_of_G hsel (fun c a d v w => (hQ c a d v w).1) τ ls _ w (e ▸ s.inv) hB (.inl (up_iff.2 s.cw)) (h w hb s.cw β ⟨fun i hi => s.good.1 i (hp.mem_iff.2 hi), fun i hi j hj => s.good.2 i (hp.mem_iff.2 hi) j (hp.mem_iff.2 hj)⟩)
 induction f with
 | zero =>
  intro σ D β a0 w0 w ls listed hf s hB hb h
  have hσ : σ = [] := List.length_eq_zero_iff.1 (by omega)
  subst hσ
  simp only [schedFG, Bool.and_eq_true] at hB
  rw [Nat.zero_add]
  exact fin D β a0 w0 w ls listed (by simp only [List.length_nil] at hf; omega) s hB.2 hb h
 | succ f ih =>
  intro σ D β a0 w0 w ls listed hf s hB hb h
  rw [show f + 1 + τ.length = (f + τ.length) + 1 by omega]
  have allocs : ∀ i, i ∈ A → i ∉ D → wpOp P ops Q i (fun a' w' => ClsAt (fun w' => ∃ u : UpTo W.heap.size W, w' = u.w) j0 (listed.setIfInBounds i true) w' ∧ wpAnyHS P md ops Q (fun w' => ∃ u : UpTo W.heap.size W, w' = u.w) j0 (fun listed' a' w' => Region.ready md ops listed' = [] ∧ Q .normal a' w') (f + τ.length) (listed.setIfInBounds i true) a' w') (puts ops β D a0) w := by
   intro i hA hD
   refine made_step ok hAl hA hD ?_
   have s' := s.made ok (Nat.le_of_lt hj0) hA hD
   refine ⟨.inl (up_iff.2 s'.cw), ih σ (i :: D) _ a0 w0 (w.alloc (z i)) ls _ ?_ s' hB (hb.alloc hb.size _) h⟩
   have hle : (i :: D).length ≤ A.length := nodup_le (List.nodup_cons.2 ⟨hD, s.dn⟩) s'.da
   simp only [List.length_cons] at hle ⊢
   omega
  match σ, hf, hB, h with
  | [], hf, hB, h =>
   simp only [schedFG, Bool.and_eq_true, decide_eq_true_eq] at hB
   have hpend : ∃ i, i ∈ A ∧ i ∉ D := by
    refine Classical.byContradiction fun hno => ?_
    have hsub : ∀ i ∈ A, i ∈ D := fun i hi => Classical.byContradiction fun h' => hno ⟨i, hi, h'⟩
    have := nodup_le ok.nodup hsub
    simp only [List.length_nil] at hf; omega
   obtain ⟨i, hA, hD⟩ := hpend
   have hri := s.pending ok hA hD
   refine ⟨fun h0 => (by rw [h0] at hri; cases hri), fun j hj => ?_⟩
   rcases s.ready hj with ⟨h1, h2⟩ | ⟨_, h2⟩
   ·exact allocs j h1 h2
   ·rw [hB.1] at h2
    have hjj : j = j0 := by simpa using h2
    subst hjj
    obtain ⟨o, ho, e, he, hbd, hon⟩ := Region.waitsFor_spec (hAw i hA)
    obtain ⟨_, o', ho', hall⟩ := mem_ready.1 hj
    obtain rfl : o = o' := Option.some.inj (ho.symm.trans ho')
    have h3 := hall e he hbd
    rw [hon] at h3
    exact absurd ((s.flo i hA).1 h3) hD
  | (0, i) :: σ, hf, hB, h =>
   simp only [schedFG, itemB, Bool.and_eq_true, decide_eq_true_eq, bne_iff_ne] at hB
   obtain ⟨⟨⟨hin, _⟩, ⟨⟨hij, hw⟩, hr⟩, hfr⟩, hB'⟩ := hB
   obtain ⟨o, v, ho, hy, hK⟩ := h
   have hr' : i ∈ Region.ready md ops ls := by simpa using hr
   obtain ⟨hiA, hrl⟩ := s.ready_of ok hin hr'
   have hsj := Region.noSelect_spec hsel i o
   refine wpAnyHS_first ho (Region.noSelect_spec hsel) (fun c a d v w => (hQ c a d v w).1) hij (fun l w il hu hc => cls_of hw il hu hc) (fun l a w hL => hL.1) _ listed _ w s.inv
    (free_of s ok hin ho hfr) hrl (puts_yields ok β ho hin hiA (fun cs b => hsj cs b ho) a0 hy D s.da) (.inl (up_iff.2 s.cw)) ?_
   rw [puts_put ok β ho hin hiA v a0 D s.da]
   exact ih σ D β _ w0 w _ _ (by simp only [List.length_cons] at hf; omega) (s.step (Nat.lt_trans hin hj0) hiA hrl (Below.refl _ _)) hB' hb hK
  | (2, i) :: σ, hf, hB, h =>
   simp only [schedFG, itemB, Bool.and_eq_true, decide_eq_true_eq, bne_iff_ne] at hB
   obtain ⟨⟨⟨hin, _⟩, ⟨hij, hr⟩, hfr⟩, hB'⟩ := hB
   obtain ⟨o, v, ho, hy, hK⟩ := h
   have hr' : i ∈ Region.ready md ops ls := by simpa using hr
   obtain ⟨hiA, hrl⟩ := s.ready_of ok hin hr'
   have hsj := Region.noSelect_spec hsel i o
   refine wpAnyHS_first ho (Region.noSelect_spec hsel) (fun c a d v w => (hQ c a d v w).1) hij (fun _ _ _ _ _ => trivial) (fun l a w hL => hL.1) _ listed _ w s.inv
    (free_of s ok hin ho hfr) hrl (puts_yields ok β ho hin hiA (fun cs b => hsj cs b ho) a0 hy D s.da) (.inl (up_iff.2 s.cw)) ?_
   rw [puts_put ok β ho hin hiA v a0 D s.da]
   exact ih σ D β _ w0 w _ _ (by simp only [List.length_cons] at hf; omega) (s.step (Nat.lt_trans hin hj0) hiA hrl (Below.refl _ _)) hB' hb hK
  | (1, i) :: σ, hf, hB, h =>
   simp only [schedFG, itemB, Bool.and_eq_true, decide_eq_true_eq, bne_iff_ne] at hB
   obtain ⟨⟨⟨hin, _⟩, hij, hr⟩, hB'⟩ := hB
   obtain ⟨hiA, hrl⟩ := s.ready_of ok hin (by rw [hr]; simp : i ∈ Region.ready md ops ls)
   refine ⟨fun h0 => (by rw [h0] at hrl; cases hrl), fun j hj => ?_⟩
   rcases s.ready hj with ⟨h1, h2⟩ | ⟨_, h2⟩
   ·exact allocs j h1 h2
   ·have hji : j = i := by rw [hr] at h2; simpa using h2
    subst hji
    obtain ⟨_, o, ho, _⟩ := mem_ready.1 hrl
    have hsj := Region.noSelect_spec hsel j o
    refine wpOp_mono (fun a' w' h' => ?_) (wpOp_at_puts ok β ho hin hiA (fun cs b => hsj cs b ho) hQ D s.da (h w hb))
    obtain ⟨a1, rfl, hb1, hK⟩ := h'
    have s' := s.step (Nat.lt_trans hin hj0) hiA hrl hb1
    exact ⟨.inl (up_iff.2 s'.cw), ih σ D β a1 w' w' _ _ (by simp only [List.length_cons] at hf; omega) s' hB' (Below.refl _ _) hK⟩
  | (k + 3, i) :: σ, hf, hB, h =>
   simp only [schedFG, Bool.and_eq_true] at hB
   obtain ⟨⟨⟨_, hk⟩, _⟩, _⟩ := hB
   simp at hk


/-- THE LAW: new variables A, and several stores. -/
theorem wp_region_FG {id : Nat} {a : Act} {w : World} {l : List Oper} (j0 : Nat) (A : List Nat) (z : Nat → Obj) (σ τ : List (Nat × Nat)) (hm : P.follows .mixedOrders = true)
    (hB : (Region.noSelect l.toArray && decide (σ.length + A.length + τ.length = l.length) && decide (j0 < l.length) && floatB l.toArray j0 A && (A.all fun i => Region.waitsFor .any l.toArray j0 i) &&
      schedFG .any l.toArray j0 τ σ ((List.range l.length).map (fun i => A.contains i)).toArray) = true)
    (hQ : ∀ c a d v w, Q (.panic c) (Act.put a d v) w ↔ Q (.panic c) a w)
    (hAl : ∀ i ∈ A, ∀ oi, l[i]? = some oi → ∀ ρ w, (execOp ρ oi).run P w = .ok (.value (ptrTo w.heap.size)) (w.alloc (z i)))
    (h : wpFG P l.toArray w Q (fun a w' => ∀ w1, Below w'.heap.size w' w1 → Below w.heap.size w w1 → ∀ β, Good w z β A w1 → wpG P l.toArray (fun w' => ∃ u : UpTo w.heap.size w, w' = u.w) Q τ (puts l.toArray β A a) w1) σ a w.drew) : (Code.region id l.toArray true).wp P Q a w := by
 simp only [Bool.and_eq_true, decide_eq_true_eq] at hB
 obtain ⟨⟨⟨⟨⟨hsel, hlen⟩, hj⟩, hfl⟩, hw⟩, hs⟩ := hB
 have ok := floatB_ok hfl
 have hls : ∀ j, ((List.range l.length).map (fun i => A.contains i)).toArray.getD j false = true ↔ j ∈ A ∧ j < l.length := by
  intro j
  by_cases hj : j < l.length
  ·simp [hj]
  ·simp [hj]
 have s0 : FlSt .any l.toArray l.toArray.size A w z ((List.range l.length).map (fun i => A.contains i)).toArray (Array.replicate l.toArray.size false) [] (fun _ => 0) w.drew := by
  refine ⟨by simp, by simp, fun j hj => (by rw [getD_replicate_false] at hj; cases hj), fun j hj hA => absurd ((hls j).1 hj).1 hA, fun j _ => ?_, fun i hi => ?_, HeadInv.none, List.nodup_nil, fun i hi => (by cases hi), (Below.refl _ _).drew, fun i hi => (by cases hi), fun i hi => (by cases hi)⟩
  ·rw [getD_replicate_false]; simp
  ·obtain ⟨_, oi, hoi, _⟩ := ok.at_ i hi
   have := (Array.getElem?_eq_some_iff.1 hoi).1
   exact (hls i).2 ⟨hi, by simpa using this⟩
 have H := floatG_main (τ := τ) hsel hQ (by simpa using hj) ok (fun i hi => List.all_eq_true.1 hw i hi) (fun i hi oi ho => hAl i hi oi (by simpa using ho)) _ σ [] (fun _ => 0) a w.drew w.drew _ _ rfl s0 hs (Below.refl _ _) h
 refine wp_region_any hm ?_
 have := wpAny_of_HS (g := 0) (fun listed a' w' hL => (⟨hL.1, hL.2⟩ : wpAny P .any l.toArray Q 0 listed a' w')) _ _ _ _ H
 have e : σ.length + (A.length - ([] : List Nat).length) + τ.length + 0 = l.toArray.size := by simp; omega
 rw [e] at this
 exact this

/-- two new variables, several stores -/
theorem wp_region_FG2 {id : Nat} {a : Act} {w : World} {l : List Oper} (j0 i j : Nat) (σ τ : List (Nat × Nat)) {o o' : Oper} {d d' : Tmp} {t t' : TypeId} {c c' : Array Value} (hm : P.follows .mixedOrders = true)
    (hB : (Region.noSelect l.toArray && decide (σ.length + [i, j].length + τ.length = l.length) && decide (j0 < l.length) && floatB l.toArray j0 [i, j] && ([i, j].all fun i => Region.waitsFor .any l.toArray j0 i) &&
      schedFG .any l.toArray j0 τ σ ((List.range l.length).map (fun k => [i, j].contains k)).toArray) = true)
    (hQ : ∀ c a d v w, Q (.panic c) (Act.put a d v) w ↔ Q (.panic c) a w) (ho : l[i]? = some o) (hop : o.op = .alloc t) (hd : o.dst = some d) (hr : AllocRuns P t c)
    (ho' : l[j]? = some o') (hop' : o'.op = .alloc t') (hd' : o'.dst = some d') (hr' : AllocRuns P t' c') (hij : (i == j) = false)
    (h : wpFG P l.toArray w Q (fun a w' => ∀ w1, Below w'.heap.size w' w1 → Below w.heap.size w w1 → ∀ b b', b ≠ b' → w.heap.size ≤ b → w1.heap[b]? = some (.cells c t) → w.heap.size ≤ b' → w1.heap[b']? = some (.cells c' t') →
      wpG P l.toArray (fun w' => ∃ u : UpTo w.heap.size w, w' = u.w) Q τ ((a.put (some d') (ptrTo b')).put (some d) (ptrTo b)) w1) σ a w.drew) :
    (Code.region id l.toArray true).wp P Q a w := by
  have hij : i ≠ j := by simpa using hij
  refine wp_region_FG j0 [i, j] (fun k => if k = i then .cells c t else .cells c' t') σ τ hm hB hQ (fun k hk oi hoi ρ w => ?_) (wpFG_mono (fun a w' h' w1 hb1 hb2 β hg => ?_) _ _ _ h)
  · rcases List.mem_cons.1 hk with rfl | hk
    · obtain rfl : o = oi := Option.some.inj (ho.symm.trans hoi)
      rw [if_pos rfl]; exact alloc_of hr o hop ρ w
    · obtain rfl : k = j := by simpa using hk
      obtain rfl : o' = oi := Option.some.inj (ho'.symm.trans hoi)
      rw [if_neg (Ne.symm hij)]; exact alloc_of hr' o' hop' ρ w
  · have h1 := hg.1 i (by simp)
    have h2 := hg.1 j (by simp)
    simp only [if_pos] at h1
    simp only [if_neg (Ne.symm hij)] at h2
    have e : puts l.toArray β [i, j] a = (a.put (some d') (ptrTo (β j))).put (some d) (ptrTo (β i)) := by
      show (a.put (dstOf l.toArray j) _).put (dstOf l.toArray i) _ = _
      simp [dstOf, ho, hd, ho', hd']
    rw [e]
    exact h' w1 hb1 hb2 _ _ (hg.2 i (by simp) j (by simp) hij) h1.1 h1.2 h2.1 h2.2

end
end Go.Proofs.Ytdlpfiiakmhnlaa.Far
namespace Go.Proofs.Ytdlpfiiakmhnlaa
open Go.RowKit

/-- a block of cells that is known whole, and may be written -/
def Blk (w : World) (b : Nat) (c : Array Value) (t : TypeId) : Prop := w.heap[b]? = some (.cells c t (0, 0))

section
variable {w w' W : World} {b b' o : Nat} {c : Array Value} {t : TypeId} {B : Nat}

theorem Blk.lt (h : Blk w b c t) : b < w.heap.size := (Array.getElem?_eq_some_iff.1 h).1
theorem Blk.cell (h : Blk w b c t) (o : Nat) : w.cell? ⟨b, o, none⟩ = c[o]? := by
  unfold World.cell?; rw [show w.heap[b]? = _ from h]; rfl
theorem Blk.free (h : Blk w b c t) (o : Nat) : w.frozen? ⟨b, o, none⟩ = false := by
  unfold World.frozen?; rw [show w.heap[b]? = _ from h]; simp
theorem Blk.below (h : Blk W b c t) (hb : Below B W w') (hB : b < B) : Blk w' b c t := (hb.block b hB).trans h
theorem Blk.of (h : Blk W b c t) (hb : Below W.heap.size W w') : Blk w' b c t := h.below hb h.lt
theorem Blk.alloc (h : Blk w b c t) (o : Obj) : Blk (w.alloc o) b c t := h.of ((Below.refl _ _).alloc (Nat.le_refl _) o)
theorem Blk.drew (h : Blk w b c t) : Blk w.drew b c t := h
theorem Blk.new (w : World) (c : Array Value) (t : TypeId) : Blk (w.alloc (.cells c t)) w.heap.size c t := by
  show (w.heap.push _)[w.heap.size]? = _
  rw [Array.getElem?_push, if_pos rfl]
theorem Blk.set (h : Blk w b c t) (hne : b ≠ b') (o : Nat) (s : Option Nat) (v : Value) : Blk (w.setCell ⟨b', o, s⟩ v) b c t := by
  show (w.setCell ⟨b', o, s⟩ v).heap[b]? = _
  rw [Below.heap_setCell _ _ _ _ (by simpa using hne)]; exact h
theorem Blk.put (h : Blk w b c t) (o : Nat) (v : Value) : Blk (w.setCell ⟨b, o, none⟩ v) b (c.setIfInBounds o v) t := by
  show (w.heap.modify b _)[b]? = _
  rw [Array.getElem?_modify, if_pos rfl, show w.heap[b]? = _ from h]; rfl
theorem size_set (w : World) (a : Addr) (v : Value) : (w.setCell a v).heap.size = w.heap.size := by simp [World.setCell]

theorem Blk.newAt (w : World) (n : Nat) (hn : n = w.heap.size) (c : Array Value) (t : TypeId) : Blk (w.alloc (.cells c t)) n c t := hn ▸ Blk.new w c t
theorem Blk.new1 (w : World) (o1 : Obj) (c : Array Value) (t : TypeId) : Blk ((w.alloc o1).alloc (.cells c t)) (w.heap.size + 1) c t := Blk.newAt _ _ (by simp) c t
theorem Blk.new2 (w : World) (o1 o2 : Obj) (c : Array Value) (t : TypeId) : Blk (((w.alloc o1).alloc o2).alloc (.cells c t)) (w.heap.size + 1 + 1) c t := Blk.newAt _ _ (by simp) c t
theorem Blk.new3 (w : World) (o1 o2 o3 : Obj) (c : Array Value) (t : TypeId) : Blk ((((w.alloc o1).alloc o2).alloc o3).alloc (.cells c t)) (w.heap.size + 1 + 1 + 1) c t := Blk.newAt _ _ (by simp) c t
theorem below_set4 (h : Below B W w) (hB : B ≤ b) (x y z u : Value) : Below B W ((((w.setCell ⟨b, 0, none⟩ x).setCell ⟨b, 1, none⟩ y).setCell ⟨b, 2, none⟩ z).setCell ⟨b, 3, none⟩ u) :=
  (((h.setCell hB x).setCell hB y).setCell hB z).setCell hB u

/-- the walk goes on under a name of the world -/
theorem name_world {P : Program} {c : Code} {Q : Exit → Act → World → Prop} {a : Act} {w : World} (h : ∀ W, W = w → c.wp P Q a W) : c.wp P Q a w := h w rfl

theorem calls_w {P : Program} {f : FuncId} {args : Array Value} {w : World} {R : Ending → World → Prop} (h : ∀ W, W = w → Calls P f args W R) : Calls P f args w R := h w rfl

theorem post_world {P : Program} {fn : Func} {R : Ending → World → Prop} {e : Exit} {a : Act} {w : World} (h : ∀ W, W = w → bodyPost P fn R e a W) : bodyPost P fn R e a w := h w rfl

theorem list_world {P : Program} {ops : Array Oper} {l : List Oper} {Q : Exit → Act → World → Prop} {a : Act} {w : World} (h : ∀ W, W = w → wpList P ops Q l a W) : wpList P ops Q l a w := h w rfl
end

/-- the Go value of a number: its four words -/
abbrev wC (x : Int) : Array Value := #[.int .u64 (wd0 x), .int .u64 (wd1 x), .int .u64 (wd2 x), .int .u64 (wd3 x)]
abbrev wI (x : Int) : Value := .agg (wC x)
/-- a variable that holds a number -/
abbrev Var (w : World) (b : Nat) (x : Int) : Prop := Blk w b (wC x) 142
theorem Var.c {w : World} {b : Nat} {x : Int} (h : Var w b x) : w.cell? ⟨b, 0, none⟩ = some (.int .u64 (wd0 x)) ∧ w.cell? ⟨b, 1, none⟩ = some (.int .u64 (wd1 x)) ∧ w.cell? ⟨b, 2, none⟩ = some (.int .u64 (wd2 x)) ∧ w.cell? ⟨b, 3, none⟩ = some (.int .u64 (wd3 x)) :=
  ⟨h.cell 0, h.cell 1, h.cell 2, h.cell 3⟩
theorem Var.f {w : World} {b : Nat} {x : Int} (h : Var w b x) : w.frozen? ⟨b, 0, none⟩ = false ∧ w.frozen? ⟨b, 1, none⟩ = false ∧ w.frozen? ⟨b, 2, none⟩ = false ∧ w.frozen? ⟨b, 3, none⟩ = false :=
  ⟨h.free 0, h.free 1, h.free 2, h.free 3⟩
theorem Var.put4 {w : World} {b : Nat} {x : Int} (h : Var w b x) (y : Int) :
    Var ((((w.setCell ⟨b, 0, none⟩ (.int .u64 (wd0 y))).setCell ⟨b, 1, none⟩ (.int .u64 (wd1 y))).setCell ⟨b, 2, none⟩ (.int .u64 (wd2 y))).setCell ⟨b, 3, none⟩ (.int .u64 (wd3 y))) b y :=
  (((Blk.put h 0 _).put 1 _).put 2 _).put 3 _
theorem Blk.set4 {w : World} {b b' : Nat} {c : Array Value} {t : TypeId} (h : Blk w b c t) (hne : b ≠ b') (x y z u : Value) :
    Blk ((((w.setCell ⟨b', 0, none⟩ x).setCell ⟨b', 1, none⟩ y).setCell ⟨b', 2, none⟩ z).setCell ⟨b', 3, none⟩ u) b c t :=
  (((h.set hne 0 none x).set hne 1 none y).set hne 2 none z).set hne 3 none u
end Go.Proofs.Ytdlpfiiakmhnlaa
namespace Go.Proofs.Ytdlpfiiakmhnlaa

/-- the number of a list of digits -/
def dval : List Int → Int
  | [] => 0
  | d :: t => d + 32768 * dval t
/-- digits -/
def DigOk (ds : List Int) : Prop := ∀ d ∈ ds, 0 ≤ d ∧ d < 32768
/-- no noughts at the end -/
def Norm (ds : List Int) : Prop := ds = [] ∨ ds.getD (ds.length - 1) 0 ≠ 0
/-- 32768^n -/
def P15 (n : Nat) : Int := 32768 ^ n
theorem P15_0 : P15 0 = 1 := rfl
theorem P15_succ (n : Nat) : P15 (n + 1) = 32768 * P15 n := by unfold P15; rw [Int.pow_succ, Int.mul_comm]
theorem P15_pos (n : Nat) : 0 < P15 n := Int.pow_pos (by decide)
theorem P15_add (m n : Nat) : P15 (m + n) = P15 m * P15 n := by unfold P15; rw [Int.pow_add]
theorem P15_le {m n : Nat} (h : m ≤ n) : P15 m ≤ P15 n := by
  obtain ⟨k, rfl⟩ : ∃ k, n = m + k := ⟨n - m, by omega⟩
  rw [P15_add]
  have h1 := P15_pos m; have h2 := P15_pos k
  have : P15 m * 1 ≤ P15 m * P15 k := Int.mul_le_mul_of_nonneg_left (by omega) (by omega)
  omega

theorem getD_in' {ds : List Int} {i : Nat} (h : i < ds.length) : ds.getD i 0 = ds[i] := by simp [h]
theorem getD_out {ds : List Int} {i : Nat} (h : ds.length ≤ i) : ds.getD i 0 = 0 := by simp [List.getElem?_eq_none h]

theorem DigOk.tail {d : Int} {t : List Int} (h : DigOk (d :: t)) : DigOk t := fun x hx => h x (List.mem_cons_of_mem _ hx)
theorem DigOk.take {ds : List Int} (h : DigOk ds) (n : Nat) : DigOk (ds.take n) := fun x hx => h x (List.mem_of_mem_take hx)
theorem DigOk.drop {ds : List Int} (h : DigOk ds) (n : Nat) : DigOk (ds.drop n) := fun x hx => h x (List.mem_of_mem_drop hx)
theorem DigOk.append {a b : List Int} (ha : DigOk a) (hb : DigOk b) : DigOk (a ++ b) := fun x hx => (List.mem_append.1 hx).elim (ha x) (hb x)
theorem DigOk.one {d : Int} (h : 0 ≤ d ∧ d < 32768) : DigOk [d] := fun x hx => by rw [List.mem_singleton.1 hx]; exact h
theorem DigOk.nil : DigOk [] := fun x hx => by cases hx
theorem DigOk.get {ds : List Int} (h : DigOk ds) (i : Nat) : 0 ≤ ds.getD i 0 ∧ ds.getD i 0 < 32768 := by
  by_cases hi : i < ds.length
  · rw [getD_in' hi]; exact h _ (List.getElem_mem hi)
  · rw [getD_out (by omega)]; omega

theorem dval_append (a b : List Int) : dval (a ++ b) = dval a + P15 a.length * dval b := by
  induction a with
  | nil => simp [dval, P15_0]
  | cons d t ih => rw [List.cons_append, dval, dval, ih, List.length_cons, P15_succ, Int.mul_add, Int.mul_assoc]; omega
theorem dval_bd {ds : List Int} (h : DigOk ds) : 0 ≤ dval ds ∧ dval ds < P15 ds.length := by
  induction ds with
  | nil => simp [dval, P15_0]
  | cons d t ih =>
    have h1 := ih h.tail
    have h2 := h d (List.mem_cons_self ..)
    rw [dval, List.length_cons, P15_succ]; omega
theorem dval_split (ds : List Int) {i : Nat} (h : i < ds.length) : dval ds = dval (ds.take i) + P15 i * (ds.getD i 0 + 32768 * dval (ds.drop (i + 1))) := by
  have e : ds = ds.take i ++ (ds.getD i 0 :: ds.drop (i + 1)) := by
    rw [getD_in' h, ← List.drop_eq_getElem_cons h, List.take_append_drop]
  conv => lhs; rw [e]
  rw [dval_append, List.length_take, Nat.min_eq_left (by omega)]; rfl
theorem dval_take_zero {ds : List Int} {n : Nat} (hn : n < ds.length) (h0 : ds.getD n 0 = 0) (h : dval (ds.take (n + 1)) = dval ds) : dval (ds.take n) = dval ds := by
  rw [← h, List.take_succ_eq_append_getElem hn, dval_append]
  rw [getD_in' hn] at h0
  rw [h0]; simp [dval]
theorem norm_lo {ds : List Int} (h : DigOk ds) (hn : Norm ds) (hne : ds ≠ []) : P15 (ds.length - 1) ≤ dval ds := by
  have hl : 0 < ds.length := List.length_pos_iff.2 hne
  rcases hn with hn | hn
  · exact absurd hn hne
  · have e := dval_split ds (i := ds.length - 1) (by omega)
    have h1 := h.get (ds.length - 1)
    have h2 := (dval_bd (h.take (ds.length - 1))).1
    have h3 : ds.drop (ds.length - 1 + 1) = [] := List.drop_eq_nil_of_le (by omega)
    rw [h3, dval, Int.mul_zero, Int.add_zero] at e
    have h4 := P15_pos (ds.length - 1)
    have h5 : P15 (ds.length - 1) * 1 ≤ P15 (ds.length - 1) * ds.getD (ds.length - 1) 0 := Int.mul_le_mul_of_nonneg_left (by omega) (by omega)
    omega
theorem norm_zero {ds : List Int} (h : DigOk ds) (hn : Norm ds) (hz : dval ds = 0) : ds = [] := by
  rcases Classical.em (ds = []) with h' | h'
  · exact h'
  · have h1 := norm_lo h hn h'
    have h2 := P15_pos (ds.length - 1)
    omega
/-- more digits, greater -/
theorem len_lt {a b : List Int} (ha : DigOk a) (hb : DigOk b) (nb : Norm b) (h : a.length < b.length) : dval a < dval b := by
  have h1 := (dval_bd ha).2
  have h2 := norm_lo hb nb (by intro e; rw [e] at h; cases h)
  have h3 := P15_le (show a.length ≤ b.length - 1 by omega)
  omega
/-- the first digit that differs decides -/
theorem dig_lt {a b : List Int} {i : Nat} (ha : DigOk a) (hb : DigOk b) (hi : i < a.length) (hl : a.length = b.length) (hd : a.drop (i + 1) = b.drop (i + 1)) (h : a.getD i 0 < b.getD i 0) : dval a < dval b := by
  rw [dval_split a hi, dval_split b (by omega : i < b.length), hd]
  have h1 := (dval_bd (ha.take i)).2
  rw [List.length_take, Nat.min_eq_left (by omega)] at h1
  have h2 := (dval_bd (hb.take i)).1
  have h3 := P15_pos i
  have h4 : P15 i * (a.getD i 0 + 32768 * dval (b.drop (i + 1)) + 1) ≤ P15 i * (b.getD i 0 + 32768 * dval (b.drop (i + 1))) := Int.mul_le_mul_of_nonneg_left (by omega) (by omega)
  rw [Int.mul_add _ _ 1, Int.mul_one] at h4
  omega
theorem drop_eq {a b : List Int} {i : Nat} (hi : i < a.length) (hl : a.length = b.length) (hd : a.drop (i + 1) = b.drop (i + 1)) (h : a.getD i 0 = b.getD i 0) : a.drop i = b.drop i := by
  rw [List.drop_eq_getElem_cons hi, List.drop_eq_getElem_cons (by omega : i < b.length), hd]
  rw [getD_in' hi, getD_in' (by omega : i < b.length)] at h
  rw [h]
/-- a number that is not too great has not too many digits -/
theorem norm_len {ds : List Int} (h : DigOk ds) (hn : Norm ds) {k : Nat} (hk : dval ds < P15 k) : ds.length ≤ k := by
  rcases Nat.lt_or_ge k ds.length with h' | h'
  · have h1 := norm_lo h hn (by intro e; rw [e] at h'; cases h')
    have h2 := P15_le (show k ≤ ds.length - 1 by omega)
    omega
  · exact h'
/-- what Cmp tells -/
def cmpI (x y : Int) : Int := if x < y then -1 else if x = y then 0 else 1
theorem cmpI_lt {x y : Int} (h : x < y) : cmpI x y = -1 := by unfold cmpI; rw [if_pos h]
theorem cmpI_eq (x : Int) : cmpI x x = 0 := by unfold cmpI; rw [if_neg (by omega), if_pos rfl]
theorem cmpI_gt {x y : Int} (h : y < x) : cmpI x y = 1 := by unfold cmpI; rw [if_neg (by omega), if_neg (by omega)]

end Go.Proofs.Ytdlpfiiakmhnlaa
namespace Go.Proofs.Ytdlpfiiakmhnlaa
open Go.RowKit


theorem add64 (x y c : Int) (hx : Wd x) (hy : Wd y) (hc0 : 0 ≤ c) (hc : c ≤ 1) (w : World) : (callFunc 115 #[.int .u64 x, .int .u64 y, .int .u64 c]).run Try.prog w =
    .ok (.value (.tuple #[.int .u64 ((x + y + c) % 18446744073709551616), .int .u64 ((x + y + c) / 18446744073709551616)])) w := by
  obtain ⟨hx, hx'⟩ := hx
  obtain ⟨hy, hy'⟩ := hy
  obtain ⟨x, rfl⟩ := Int.eq_ofNat_of_zero_le hx
  obtain ⟨y, rfl⟩ := Int.eq_ofNat_of_zero_le hy
  obtain ⟨c, rfl⟩ := Int.eq_ofNat_of_zero_le hc0
  rw [run_callFunc_extern Try.func115 (by kernel_rfl) (by kernel_rfl) (by kernel_rfl) (e := add64Entry) (by kernel_rfl), run_add64 x y c (by omega) (by omega) (by omega) (by omega)]
  simp only [Result.andThen]


set_option maxRecDepth 100000 in
set_option maxHeartbeats 1000000 in
theorem plus_raw (a0 a1 a2 a3 b0 b1 b2 b3 c : Int) (w : World) (ha0 : Wd a0) (ha1 : Wd a1) (ha2 : Wd a2) (ha3 : Wd a3) (hb0 : Wd b0) (hb1 : Wd b1) (hb2 : Wd b2) (hb3 : Wd b3) (hc0 : 0 ≤ c) (hc1 : c ≤ 1) :
    Calls Try.prog 110 #[.agg #[.int .u64 a0, .int .u64 a1, .int .u64 a2, .int .u64 a3], .agg #[.int .u64 b0, .int .u64 b1, .int .u64 b2, .int .u64 b3], .int .u64 c] w fun e w' =>
      e = .returned (.agg #[.int .u64 ((a0 + b0 + c) % 18446744073709551616), .int .u64 ((a1 + b1 + (a0 + b0 + c) / 18446744073709551616) % 18446744073709551616),
        .int .u64 ((a2 + b2 + (a1 + b1 + (a0 + b0 + c) / 18446744073709551616) / 18446744073709551616) % 18446744073709551616),
        .int .u64 ((a3 + b3 + (a2 + b2 + (a1 + b1 + (a0 + b0 + c) / 18446744073709551616) / 18446744073709551616) / 18446744073709551616) % 18446744073709551616)]) ∧ Below w.heap.size w w' := by
  obtain ⟨g0, g0'⟩ := ha0
  obtain ⟨g1, g1'⟩ := ha1
  obtain ⟨g2, g2'⟩ := ha2
  obtain ⟨g3, g3'⟩ := ha3
  obtain ⟨h0, h0'⟩ := hb0
  obtain ⟨h1, h1'⟩ := hb1
  obtain ⟨h2, h2'⟩ := hb2
  obtain ⟨h3, h3'⟩ := hb3
  have k0 := fun w => add64 a0 b0 c ⟨g0, g0'⟩ ⟨h0, h0'⟩ hc0 hc1 w
  have k1 := fun w => add64 a1 b1 ((a0 + b0 + c) / 18446744073709551616) ⟨g1, g1'⟩ ⟨h1, h1'⟩ (by omega) (by omega) w
  have k2 := fun w => add64 a2 b2 ((a1 + b1 + (a0 + b0 + c) / 18446744073709551616) / 18446744073709551616) ⟨g2, g2'⟩ ⟨h2, h2'⟩ (by omega) (by omega) w
  have k3 := fun w => add64 a3 b3 ((a2 + b2 + (a1 + b1 + (a0 + b0 + c) / 18446744073709551616) / 18446744073709551616) / 18446744073709551616) ⟨g3, g3'⟩ ⟨h3, h3'⟩ (by omega) (by omega) w
  clear g0 g0' g1 g1' g2 g2' g3 g3' h0 h0' h1 h1' h2 h2' h3 h3' hc0 hc1
  go_enter Try.func110, Try.ntmps110
  go_wp2
  refine wp_loop_rounds 5 ?_
  rw [rounds_succ]
  go_wp2
  go_region
  go_wp2
  rw [rounds_succ]
  go_wp2
  go_region
  go_wp2
  rw [rounds_succ]
  go_wp2
  go_region
  go_wp2
  rw [rounds_succ]
  go_wp2
  go_region
  go_wp2
  rw [rounds_succ]
  go_wp2
  simp [bodyPost, results, Try.results110, go_sem]
  exact ((((((((Below.refl _ _).alloc (Nat.le_refl _) _).alloc (by simp) _).alloc (by simp; omega) _).alloc (by simp; omega) _).drew).drew).drew).drew

/-- plus: the sum of the bits of two, with one more, or not -/
theorem plus_any (x y c : Int) (w : World) (hc0 : 0 ≤ c) (hc1 : c ≤ 1) :
    Calls Try.prog 110 #[wI x, wI y, .int .u64 c] w fun e w' => e = .returned (wI (x + y + c)) ∧ Below w.heap.size w w' := by
  refine (plus_raw _ _ _ _ _ _ _ _ c w (wd0_Wd x) (wd1_Wd x) (wd2_Wd x) (wd3_Wd x) (wd0_Wd y) (wd1_Wd y) (wd2_Wd y) (wd3_Wd y) hc0 hc1).mono fun e w' ⟨he, hw⟩ => ⟨?_, hw⟩
  rw [he, ← plus_wd0, ← plus_wd1, ← plus_wd2, ← plus_wd3]

theorem negative_raw (a b c d : Int) (w : World) (hd : Wd d) :
    Calls Try.prog 105 #[.agg #[.int .u64 a, .int .u64 b, .int .u64 c, .int .u64 d]] w fun e w' =>
      e = .returned (.bool (d / 9223372036854775808 != 0)) ∧ Below w.heap.size w w' := by
  obtain ⟨h1, h2⟩ := hd
  go_enter Try.func105, Try.ntmps105
  go_wp2
  go_ret
  exact ⟨rfl, (Below.refl _ _).alloc (Nat.le_refl _) _⟩
end Go.Proofs.Ytdlpfiiakmhnlaa

namespace Go.Proofs.Ytdlpfiiakmhnlaa
open Go.RowKit

theorem xor_max_nat (n : Nat) (h : n < 18446744073709551616) : 18446744073709551615 ^^^ n = 18446744073709551615 - n := by
  have e : (BitVec.allOnes 64 ^^^ BitVec.ofNat 64 n).toNat = (~~~ (BitVec.ofNat 64 n)).toNat := by
    rw [BitVec.allOnes_xor]
  rw [BitVec.toNat_xor, BitVec.toNat_not, BitVec.toNat_allOnes, BitVec.toNat_ofNat, Nat.mod_eq_of_lt (by simpa using h)] at e
  simpa using e
theorem xor_max (a : Int) (h : Wd a) : bits .xor .u64 IntKind.u64.max a = 18446744073709551615 - a := by
  obtain ⟨h0, h1⟩ := h
  have e : IntKind.u64.max = 18446744073709551615 := by decide
  rw [e, u64_xor _ _ (by decide) (by decide) h0 h1]
  have := xor_max_nat a.toNat (by omega)
  have e2 : Int.toNat 18446744073709551615 = 18446744073709551615 := by decide
  rw [e2, this]; omega

theorem allocI : AllocRuns Try.prog 142 (wC 0) := fun w => by kernel_rfl

theorem negative_any (x : Int) (w : World) : Calls Try.prog 105 #[wI x] w fun e w' => e = .returned (.bool (ng x)) ∧ Below w.heap.size w w' :=
  negative_raw _ _ _ _ w (wd3_Wd x)
theorem negative_is (x : Int) (b : Bool) (h : ng x = b) (w : World) : Calls Try.prog 105 #[wI x] w fun e w' => e = .returned (.bool b) ∧ Below w.heap.size w w' := h ▸ negative_any x w

theorem kept_any (x : Int) (b : Bool) (w : World) : Calls Try.prog 112 #[wI x, .bool b] w fun e w' => e = .returned (.tuple #[wI (bif b then x else 0), .bool b]) ∧ Below w.heap.size w w' := by
  cases b
  · go_enter Try.func112, Try.ntmps112
    go_wp2
    simp [bodyPost, results, Try.results112, go_sem, wd0_0, wd1_0, wd2_0, wd3_0]
    exact ((Below.refl _ _).alloc (Nat.le_refl _) _).alloc (by simp) _
  · go_enter Try.func112, Try.ntmps112
    go_wp2
    simp [bodyPost, results, Try.results112, go_sem]
    exact ((Below.refl _ _).alloc (Nat.le_refl _) _).alloc (by simp) _

set_option maxRecDepth 100000 in
theorem turned_raw (a0 a1 a2 a3 : Int) (w : World) (h0 : Wd a0) (h1 : Wd a1) (h2 : Wd a2) (h3 : Wd a3) :
    Calls Try.prog 111 #[.agg #[.int .u64 a0, .int .u64 a1, .int .u64 a2, .int .u64 a3]] w fun e w' =>
      e = .returned (.agg #[.int .u64 (18446744073709551615 - a0), .int .u64 (18446744073709551615 - a1), .int .u64 (18446744073709551615 - a2), .int .u64 (18446744073709551615 - a3)]) ∧ Below w.heap.size w w' := by
  have x0 := xor_max a0 h0
  have x1 := xor_max a1 h1
  have x2 := xor_max a2 h2
  have x3 := xor_max a3 h3
  clear h0 h1 h2 h3
  go_enter Try.func111, Try.ntmps111
  go_wp2
  refine wp_loop_rounds 5 ?_
  iterate 5
    rw [rounds_succ]
    go_wp2
  simp [bodyPost, results, Try.results111, go_sem]
  exact ((Below.refl _ _).alloc (Nat.le_refl _) _).alloc (by simp) _

theorem turned_any (x : Int) (w : World) :
    Calls Try.prog 111 #[wI x] w fun e w' => e = .returned (wI (-1 - x)) ∧ Below w.heap.size w w' := by
  refine (turned_raw _ _ _ _ w (wd0_Wd x) (wd1_Wd x) (wd2_Wd x) (wd3_Wd x)).mono fun e w' ⟨he, hw⟩ => ⟨?_, hw⟩
  rw [he, ← not_wd0, ← not_wd1, ← not_wd2, ← not_wd3]


end Go.Proofs.Ytdlpfiiakmhnlaa
namespace Go.Proofs.Ytdlpfiiakmhnlaa
open Go.RowKit

@[go_sem] theorem run_eqI (a0 a1 a2 a3 b0 b1 b2 b3 : Int) (w : World) :
    (Op.equalIn 10000 142 (.agg #[.int .u64 a0, .int .u64 a1, .int .u64 a2, .int .u64 a3]) (.agg #[.int .u64 b0, .int .u64 b1, .int .u64 b2, .int .u64 b3])).run Try.prog w = .ok (eq4 a0 a1 a2 a3 b0 b1 b2 b3) w := by
  have hu : Try.prog.underlying 142 = some (.array 4 140) := by kernel_rfl
  have hs : ∀ w, (sizeOf 140).run Try.prog w = .ok 1 w := fun w => by kernel_rfl
  have he : ∀ (a b : Int) w, (Op.equalIn 9999 140 (.int .u64 a) (.int .u64 b)).run Try.prog w = .ok (a == b) w := fun a b w => run_equalIn_int w 9998 _ .u64 .u64 a b (by kernel_rfl)
  have hp : ∀ (c : Array Value) (i : Nat) (v : Value) w, c[i]? = some v → (part 140 c i).run Try.prog w = .ok v w := by
    intro c i v w h
    have ha : (isAgg 140).run Try.prog w = .ok false w := by kernel_rfl
    unfold part
    simp [Sem.run_bind, ha, h]
  show (Op.equalIn (9999 + 1) _ _ _).run _ _ = _
  unfold Op.equalIn
  simp only [Sem.run_bind, run_underlying hu, Result.andThen_ok, hs]
  simp [List.range', he, hp, Sem.run_bind]
  unfold eq4
  by_cases h0 : a0 = b0 <;> by_cases h1 : a1 = b1 <;> by_cases h2 : a2 = b2 <;> by_cases h3 : a3 = b3 <;> simp [h0, h1, h2, h3]


set_option maxRecDepth 100000 in
theorem Sign_go (x : Int) (w : World) (b z : Bool) (hx : ng x = b) (hz : eq4 (wd0 x) (wd1 x) (wd2 x) (wd3 x) 0 0 0 0 = z) :
    Calls Try.prog 94 #[wI x] w fun e w' => e = .returned (.int .i64 (bif b then -1 else bif z then 0 else 1)) ∧ Below w.heap.size w w' := by
  go_enter Try.func94, Try.ntmps94
  go_wp2_with fail
  refine calls_w ?_
  intro W0 hW0
  have v0 : Var W0 w.heap.size x := by rw [hW0]; exact Blk.new _ _ _
  have hb0 : Below w.heap.size w W0 := by rw [hW0]; exact ((Below.refl _ _).alloc (Nat.le_refl _) _)
  clear hW0
  refine (negative_is x _ hx _).mono ?_
  rintro e w1 ⟨rfl, hb1⟩
  replace hb0 := hb0.trans (hb1.mono hb0.size)
  have c0 := Var.c (v0.of hb1)
  clear v0 hb1 hx
  cases b <;> cases z
  all_goals
    go_wp2
    go_ret
    exact ⟨rfl, hb0⟩

theorem Sign_any (x : Int) (w : World) (h : InI x) :
    Calls Try.prog 94 #[wI x] w fun e w' => e = .returned (.int .i64 x.sign) ∧ Below w.heap.size w w' := by
  refine (Sign_go x w _ _ rfl rfl).mono fun e w' ⟨he, hw⟩ => ⟨?_, hw⟩
  rw [he, ng_in h, eq4_0]
  congr 2
  obtain ⟨h1, h2⟩ := h
  rcases Int.lt_trichotomy x 0 with hx | hx | hx
  · simp [hx, Int.sign_eq_neg_one_of_neg hx]
  · subst hx; rfl
  · have e1 : ¬ x < 0 := by omega
    have e2 : ¬ x % b256 = 0 := by unfold b255 b256 at *; omega
    simp [e1, e2, Int.sign_eq_one_of_pos hx]

set_option maxRecDepth 100000 in
set_option maxHeartbeats 1000000 in
theorem size_go (x : Int) (w : World) (b : Bool) (hx : ng x = b) :
    Calls Try.prog 113 #[wI x] w fun e w' => e = .returned (wI (bif b then -x else x)) ∧ Below w.heap.size w w' := by
  go_enter Try.func113, Try.ntmps113
  go_wp2_with fail
  refine calls_w ?_
  intro W0 hW0
  have v0 : Var W0 w.heap.size x := by rw [hW0]; exact (Blk.new _ _ _).alloc _
  have v1 : Var W0 (w.heap.size + 1) 0 := by rw [hW0]; exact Blk.new1 _ _ _ _
  have hb0 : Below w.heap.size w W0 := by rw [hW0]; exact ((Below.refl _ _).alloc (Nat.le_refl _) _).alloc (by simp) _
  clear hW0
  cases b
  · refine (negative_is x _ hx _).mono ?_
    rintro e w1 ⟨rfl, hb1⟩
    replace hb0 := hb0.trans (hb1.mono hb0.size)
    have c0 := Var.c (v0.of hb1)
    have c1 := Var.c (v1.of hb1)
    have f1 := Var.f (v1.of hb1)
    clear v0 v1 hb1 hx
    go_wp2
    simp [bodyPost, results, Try.results113, go_sem, c1]
    refine below_set4 hb0 ?_ _ _ _ _
    omega
  · refine (negative_is x _ hx _).mono ?_
    rintro e w1 ⟨rfl, hb1⟩
    replace hb0 := hb0.trans (hb1.mono hb0.size)
    replace v1 : Var _ _ _ := v1.of hb1
    have c0 := Var.c (v0.of hb1)
    clear v0 hb1 hx
    have V1 := Lib.hid v1
    clear v1
    go_wp2_with fail
    refine (turned_any x _).mono ?_
    rintro e w2 ⟨rfl, hn⟩
    go_wp2_with fail
    refine (plus_any 0 (-1 - x) 1 _ (by decide) (by decide)).mono ?_
    rintro e w3 ⟨rfl, hn2⟩
    replace hn := hn.trans (hn2.mono hn.size)
    have c1 := Var.c (V1.out.of hn)
    have f1 := Var.f (V1.out.of hn)
    clear V1 hn2 c0
    have e0 : 0 + (-1 - x) + 1 = -x := by omega
    rw [e0]
    clear e0
    go_wp2
    simp [bodyPost, results, Try.results113, go_sem, c1]
    refine below_set4 (hb0.trans (hn.mono hb0.size)) ?_ _ _ _ _
    omega
theorem size_any (x : Int) (w : World) : Calls Try.prog 113 #[wI x] w fun e w' => e = .returned (wI (sz x)) ∧ Below w.heap.size w w' := size_go x w _ rfl

/-- what signed says: is there a number of this size, below 0 or not? -/
def sgB (s : Int) (b : Bool) : Bool := bif b then ng (-s) || eq4 (wd0 (-s)) (wd1 (-s)) (wd2 (-s)) (wd3 (-s)) 0 0 0 0 else !ng s
def sgV (s : Int) (b : Bool) : Int := bif b then -s else s

set_option maxRecDepth 100000 in
set_option maxHeartbeats 1000000 in
theorem signed_pos (s : Int) (w : World) (k : Bool) (hk : ng s = k) :
    Calls Try.prog 116 #[wI s, .bool false] w fun e w' => e = .returned (.tuple #[wI (bif !k then s else 0), .bool (!k)]) ∧ Below w.heap.size w w' := by
  go_enter Try.func116, Try.ntmps116
  go_wp2_with fail
  refine name_world ?_
  intro W hW
  have v0 : Var W w.heap.size s := by rw [hW]; exact (Blk.new _ _ _).alloc _
  have v1 : Var W (w.heap.size + 1) 0 := by rw [hW]; exact Blk.new1 _ _ _ _
  have hb0 : Below w.heap.size w W := by rw [hW]; exact ((Below.refl _ _).alloc (Nat.le_refl _) _).alloc (by simp) _
  clear hW
  have l0 := v0.lt
  have c0 := v0.c
  have V1 := Lib.hid v1
  clear v0 v1
  cases k
  all_goals
    refine wp_region_up W.heap.size 7 [(true, 0), (true, 1), (false, 2), (true, 3), (false, 4), (true, 5), (true, 6)] (by kernel_rfl) (by kernel_rfl) (fun _ _ d _ _ h => by cases d <;> exact h) ?_
    have hb : Below W.heap.size W W.drew := (Below.refl _ _).drew
    iterate 2
      refine wpS_takeL rfl rfl ?_
      go_big_quiet_step (rfl)
      refine wpQuiet_nil ?_
    refine wpS_doL rfl ?_
    intro K hK
    go_wp2_with ((first | (go_at_call 105; refine (negative_any _ _).mono ?_; rintro e w2 ⟨rfl, hn⟩) | (go_at_call 112; refine (kept_any _ _ _).mono ?_; rintro e w2 ⟨rfl, hn⟩)))
    replace hb := hb.trans (hn.mono hb.size)
    refine hK.out _ _ (up_iff.2 hb) ?_
    clear hK K
    clear hn
    refine wpS_takeL rfl rfl ?_
    go_big_quiet_step (rfl)
    refine wpQuiet_nil ?_
    refine wpS_doL rfl ?_
    intro K hK
    go_wp2_with ((first | (go_at_call 105; refine (negative_any _ _).mono ?_; rintro e w2 ⟨rfl, hn⟩) | (go_at_call 112; refine (kept_any _ _ _).mono ?_; rintro e w2 ⟨rfl, hn⟩)))
    replace hb := hb.trans (hn.mono hb.size)
    refine hK.out _ _ (up_iff.2 hb) ?_
    clear hK K
    clear hn
    iterate 2
      refine wpS_takeL rfl rfl ?_
      go_big_quiet_step (rfl)
      refine wpQuiet_nil ?_
    refine wpS_nil ?_
    simp only [List.drop_succ_cons, List.drop_zero]
    have v1 : Var _ _ _ := V1.out.of hb
    have c1 := v1.c
    have f1 := v1.f
    clear V1 v1
    go_wp2
    simp [bodyPost, results, Try.results116, go_sem, c1, wd0_0, wd1_0, wd2_0, wd3_0]
    refine below_set4 (hb0.trans (hb.mono hb0.size)) ?_ _ _ _ _
    omega

set_option maxRecDepth 100000 in
set_option maxHeartbeats 1000000 in
theorem signed_neg (s : Int) (w : World) (k z : Bool) (hk : ng (-s) = k) (hz : eq4 (wd0 (-s)) (wd1 (-s)) (wd2 (-s)) (wd3 (-s)) 0 0 0 0 = z) :
    Calls Try.prog 116 #[wI s, .bool true] w fun e w' => e = .returned (.tuple #[wI (bif k || z then -s else 0), .bool (k || z)]) ∧ Below w.heap.size w w' := by
 go_enter Try.func116, Try.ntmps116
 go_wp2_with fail
 refine calls_w ?_
 intro W0 hW0
 have v0 : Var W0 w.heap.size s := by rw [hW0]; exact (Blk.new _ _ _).alloc _
 have v1 : Var W0 (w.heap.size + 1) 0 := by rw [hW0]; exact Blk.new1 _ _ _ _
 have hb0 : Below w.heap.size w W0 := by rw [hW0]; exact ((Below.refl _ _).alloc (Nat.le_refl _) _).alloc (by simp) _
 clear hW0 v0
 refine (turned_any s _).mono ?_
 rintro e w2 ⟨rfl, hn⟩
 go_wp2_with fail
 refine (plus_any 0 (-1 - s) 1 _ (by decide) (by decide)).mono ?_
 rintro e w3 ⟨rfl, hn2⟩
 replace hn := hn.trans (hn2.mono hn.size)
 replace v1 := v1.of hn
 replace hb0 := hb0.trans (hn.mono hb0.size)
 clear hn2 hn
 have e0 : 0 + (-1 - s) + 1 = -s := by omega
 rw [e0]
 clear e0
 go_wp2_with fail
 refine name_world ?_
 intro W hW
 have v2 : Var W w3.heap.size (-s) := by rw [hW]; exact Blk.new _ _ _
 replace v1 : Var W (w.heap.size + 1) 0 := by rw [hW]; exact v1.alloc _
 replace hb0 : Below w.heap.size w W := by rw [hW]; exact hb0.alloc hb0.size _
 clear hW
 have l2 := v2.lt
 have c2 := v2.c
 have V1 := Lib.hid v1
 clear v1 v2
 cases k <;> cases z
 all_goals
  refine wp_region_up W.heap.size 11 [(true, 0), (true, 1), (false, 2), (true, 3), (true, 4), (true, 5), (true, 6), (true, 7), (false, 8), (true, 9), (true, 10)] (by kernel_rfl) (by kernel_rfl) (fun _ _ d _ _ h => by cases d <;> exact h) ?_
  have hb : Below W.heap.size W W.drew := (Below.refl _ _).drew
  iterate 2
   refine wpS_takeL rfl rfl ?_
   go_big_quiet_step (rfl)
   refine wpQuiet_nil ?_
  refine wpS_doL rfl ?_
  intro K hK
  go_wp2_with ((first | (go_at_call 105; refine (negative_any _ _).mono ?_; rintro e w2 ⟨rfl, hn⟩) | (go_at_call 112; refine (kept_any _ _ _).mono ?_; rintro e w2 ⟨rfl, hn⟩)))
  replace hb := hb.trans (hn.mono hb.size)
  refine hK.out _ _ (up_iff.2 hb) ?_
  clear hK K
  clear hn
  iterate 5
   refine wpS_takeL rfl rfl ?_
   go_big_quiet_step (rfl)
   refine wpQuiet_nil ?_
  refine wpS_doL rfl ?_
  intro K hK
  go_wp2_with ((first | (go_at_call 105; refine (negative_any _ _).mono ?_; rintro e w2 ⟨rfl, hn⟩) | (go_at_call 112; refine (kept_any _ _ _).mono ?_; rintro e w2 ⟨rfl, hn⟩)))
  replace hb := hb.trans (hn.mono hb.size)
  refine hK.out _ _ (up_iff.2 hb) ?_
  clear hK K
  clear hn
  iterate 2
   refine wpS_takeL rfl rfl ?_
   go_big_quiet_step (rfl)
   refine wpQuiet_nil ?_
  refine wpS_nil ?_
  simp only [List.drop_succ_cons, List.drop_zero]
  have v1 : Var _ _ _ := V1.out.of hb
  have c1 := v1.c
  have f1 := v1.f
  clear V1 v1
  go_wp2
  simp [bodyPost, results, Try.results116, go_sem, c1, wd0_0, wd1_0, wd2_0, wd3_0]
  refine below_set4 (hb0.trans (hb.mono hb0.size)) ?_ _ _ _ _
  omega

theorem signed_any (s : Int) (b : Bool) (w : World) :
    Calls Try.prog 116 #[wI s, .bool b] w fun e w' => e = .returned (.tuple #[wI (bif sgB s b then sgV s b else 0), .bool (sgB s b)]) ∧ Below w.heap.size w w' := by
  cases b
  · exact signed_pos s w _ rfl
  · exact signed_neg s w _ _ rfl rfl
end Go.Proofs.Ytdlpfiiakmhnlaa
namespace Go.Proofs.Ytdlpfiiakmhnlaa
open Go.RowKit


/-- what Sub says: does the difference fit? -/
def subB (x y : Int) : Bool := (ng x == ng y) || (ng (x - y) == ng x)

set_option maxRecDepth 100000 in
set_option maxHeartbeats 2000000 in
theorem Sub_go (x y : Int) (w : World) (bx by' bs : Bool) (hx : ng x = bx) (hy : ng y = by') (hs : ng (x - y) = bs) :
    Calls Try.prog 107 #[wI x, wI y] w fun e w' => e = .returned (.tuple #[wI (bif subB x y then x - y else 0), .bool (subB x y)]) ∧ Below w.heap.size w w' := by
 have hfin : subB x y = ((bx == by') || (bs == bx)) := by simp [subB, hx, hy, hs]
 rw [hfin]
 clear hfin
 go_enter Try.func107, Try.ntmps107
 go_wp2_with fail
 refine name_world ?_
 intro W hW
 have v0 : Var W w.heap.size x := by rw [hW]; exact ((Blk.new _ _ _).alloc _).alloc _
 have v1 : Var W (w.heap.size + 1) y := by rw [hW]; exact ((Blk.new1 _ _ _ _).alloc _)
 have v2 : Var W (w.heap.size + 1 + 1) 0 := by rw [hW]; exact Blk.new2 _ _ _ _ _
 have hb0 : Below w.heap.size w W := by rw [hW]; exact (((Below.refl _ _).alloc (Nat.le_refl _) _).alloc (by simp) _).alloc (by simp; omega) _
 clear hW
 have l0 := v0.lt
 have l1 := v1.lt
 have c0 := v0.c
 have c1 := v1.c
 have V0 := Lib.hid v0
 have V1 := Lib.hid v1
 have V2 := Lib.hid v2
 clear v0 v1 v2
 refine wp_region_float1 5 4 [(true, 0), (true, 1), (false, 2), (false, 3)] (by kernel_rfl) (by kernel_rfl) (fun _ _ d _ _ => by cases d <;> exact Iff.rfl) rfl rfl rfl allocI ?_
 have hb : Below W.heap.size W W.drew := (Below.refl _ _).drew
 iterate 2
  refine wpF_take rfl rfl ?_
  go_big_quiet_step (rfl)
  refine wpQuiet_nil ?_
 refine wpF_do rfl ?_
 intro w1 hg K hK
 replace hb := hb.trans (hg.mono hb.size)
 clear hg
 go_wp2_with ((first | (go_at_call 111; refine (turned_any _ _).mono ?_; rintro e w2 ⟨rfl, hn⟩) | (go_at_call 110; refine (plus_any _ _ 1 _ (by decide) (by decide)).mono ?_; rintro e w2 ⟨rfl, hn⟩)))
 refine hK.out _ _ hn ?_
 replace hb := hb.trans (hn.mono hb.size)
 clear hK K
 clear hn
 refine wpF_do rfl ?_
 intro w1 hg K hK
 replace hb := hb.trans (hg.mono hb.size)
 clear hg
 go_wp2_with ((first | (go_at_call 111; refine (turned_any _ _).mono ?_; rintro e w2 ⟨rfl, hn⟩) | (go_at_call 110; refine (plus_any _ _ 1 _ (by decide) (by decide)).mono ?_; rintro e w2 ⟨rfl, hn⟩)))
 refine hK.out _ _ hn ?_
 replace hb := hb.trans (hn.mono hb.size)
 clear hK K
 clear hn
 refine wpF_nil ?_
 clear hb
 intro w1 hg hb b1 lb1 nb1
 clear hg
 simp only [Act.put, ptrTo, List.setIfInBounds_toArray, List.set_cons_succ, List.set_cons_zero]
 simp only [List.drop_succ_cons, List.drop_zero]
 have e0 : x + (-1 - y) + 1 = x - y := by omega
 rw [e0]
 clear e0
 have n3 : b1 < w1.heap.size := Blk.lt nb1
 have d0 : b1 ≠ w.heap.size := by omega
 have d1 : b1 ≠ w.heap.size + 1 := by omega
 have d2 : b1 ≠ w.heap.size + 1 + 1 := by have := Blk.lt V2.out; omega
 have v3 : Var w1 b1 0 := nb1
 have v0 : Var w1 w.heap.size x := V0.out.of hb
 have v1 : Var w1 (w.heap.size + 1) y := V1.out.of hb
 have v2 : Var w1 (w.heap.size + 1 + 1) 0 := V2.out.of hb
 replace hb0 := hb0.trans (hb.mono hb0.size)
 have lb := Nat.le_trans (Nat.le_of_lt l0) lb1
 have c3 := v3.c
 have f3 := v3.f
 have V3 := Lib.hid v3
 clear V0 V1 V2 nb1 hb c0 c1 l0 l1 v3
 go_wp2_with fail
 refine name_world ?_
 intro W' hW
 replace v3 : Var W' b1 (x - y) := by rw [hW]; exact Var.put4 V3.out _
 replace v0 : Var W' w.heap.size x := by rw [hW]; exact v0.set4 d0.symm _ _ _ _
 replace v1 : Var W' (w.heap.size + 1) y := by rw [hW]; exact v1.set4 d1.symm _ _ _ _
 replace v2 : Var W' (w.heap.size + 1 + 1) 0 := by rw [hW]; exact v2.set4 d2.symm _ _ _ _
 replace hb0 : Below w.heap.size w W' := by rw [hW]; exact below_set4 hb0 lb _ _ _ _
 clear hW c3 f3 V3 d0 d1 d2 lb1 lb n3
 have l0 := v0.lt
 have l1 := v1.lt
 have l3 := v3.lt
 have c0 := v0.c
 have c1 := v1.c
 have c3 := v3.c
 have V2 := Lib.hid v2
 clear v0 v1 v2 v3
 cases bx <;> cases by' <;> cases bs
 all_goals
  refine wp_region_up W'.heap.size 16 [(true, 0), (true, 1), (true, 3), (false, 2), (false, 4), (true, 5), (true, 6), (true, 7), (true, 9), (false, 8), (false, 10), (true, 11), (true, 12), (false, 13), (true, 14), (true, 15)] (by kernel_rfl) (by kernel_rfl) (fun _ _ d _ _ h => by cases d <;> exact h) ?_
  have hb : Below W'.heap.size W' W'.drew := (Below.refl _ _).drew
  iterate 3
   refine wpS_takeL rfl rfl ?_
   go_big_quiet_step (rfl)
   refine wpQuiet_nil ?_
  refine wpS_doL rfl ?_
  intro K hK
  go_wp2_with ((first | (go_at_call 105; refine (negative_any _ _).mono ?_; rintro e w2 ⟨rfl, hn⟩) | (go_at_call 112; refine (kept_any _ _ _).mono ?_; rintro e w2 ⟨rfl, hn⟩)))
  replace hb := hb.trans (hn.mono hb.size)
  refine hK.out _ _ (up_iff.2 hb) ?_
  clear hK K
  clear hn
  refine wpS_doL rfl ?_
  intro K hK
  go_wp2_with ((first | (go_at_call 105; refine (negative_any _ _).mono ?_; rintro e w2 ⟨rfl, hn⟩) | (go_at_call 112; refine (kept_any _ _ _).mono ?_; rintro e w2 ⟨rfl, hn⟩)))
  replace hb := hb.trans (hn.mono hb.size)
  refine hK.out _ _ (up_iff.2 hb) ?_
  clear hK K
  clear hn
  iterate 4
   refine wpS_takeL rfl rfl ?_
   go_big_quiet_step (rfl)
   refine wpQuiet_nil ?_
  refine wpS_doL rfl ?_
  intro K hK
  go_wp2_with ((first | (go_at_call 105; refine (negative_any _ _).mono ?_; rintro e w2 ⟨rfl, hn⟩) | (go_at_call 112; refine (kept_any _ _ _).mono ?_; rintro e w2 ⟨rfl, hn⟩)))
  try replace hb := hb.trans (hn.mono hb.size)
  refine hK.out _ _ (up_iff.2 hb) ?_
  clear hK K
  try clear hn
  refine wpS_doL rfl ?_
  intro K hK
  go_wp2_with ((first | (go_at_call 105; refine (negative_any _ _).mono ?_; rintro e w2 ⟨rfl, hn⟩) | (go_at_call 112; refine (kept_any _ _ _).mono ?_; rintro e w2 ⟨rfl, hn⟩)))
  try replace hb := hb.trans (hn.mono hb.size)
  refine hK.out _ _ (up_iff.2 hb) ?_
  clear hK K
  try clear hn
  iterate 2
   refine wpS_takeL rfl rfl ?_
   go_big_quiet_step (rfl)
   refine wpQuiet_nil ?_
  refine wpS_doL rfl ?_
  intro K hK
  go_wp2_with ((first | (go_at_call 105; refine (negative_any _ _).mono ?_; rintro e w2 ⟨rfl, hn⟩) | (go_at_call 112; refine (kept_any _ _ _).mono ?_; rintro e w2 ⟨rfl, hn⟩)))
  replace hb := hb.trans (hn.mono hb.size)
  refine hK.out _ _ (up_iff.2 hb) ?_
  clear hK K
  clear hn
  iterate 2
   refine wpS_takeL rfl rfl ?_
   go_big_quiet_step (rfl)
   refine wpQuiet_nil ?_
  refine wpS_nil ?_
  simp only [List.drop_succ_cons, List.drop_zero]
  have v2 : Var _ (w.heap.size + 1 + 1) 0 := V2.out.of hb
  have c2 := v2.c
  have f2 := v2.f
  clear V2 v2
  go_wp2
  simp [bodyPost, results, Try.results107, go_sem, c2, wd0_0, wd1_0, wd2_0, wd3_0]
  refine below_set4 (hb0.trans (hb.mono hb0.size)) ?_ _ _ _ _
  omega
end Go.Proofs.Ytdlpfiiakmhnlaa
namespace Go.Proofs.Ytdlpfiiakmhnlaa
open Go.RowKit

theorem Sub_any (x y : Int) (w : World) : Calls Try.prog 107 #[wI x, wI y] w fun e w' => e = .returned (.tuple #[wI (bif subB x y then x - y else 0), .bool (subB x y)]) ∧ Below w.heap.size w w' := Sub_go x y w _ _ _ rfl rfl rfl
set_option maxRecDepth 100000 in
set_option maxHeartbeats 1000000 in
theorem Of_any (n : Int) (w : World) (h : In64 n) :
    Calls Try.prog 104 #[.int .i64 n] w fun e w' => e = .returned (wI n) ∧ Below w.heap.size w w' := by
  obtain ⟨h1, h2⟩ := h
  by_cases h0 : 0 ≤ n
  · obtain ⟨e0, e1, e2, e3⟩ := wd_of_nat h0 h2
    have e : wI n = .agg #[.int .u64 n, .int .u64 0, .int .u64 0, .int .u64 0] := by unfold wI wC; rw [e0, e1, e2, e3]
    rw [e]
    clear e e0 e1 e2 e3
    go_enter Try.func104, Try.ntmps104
    go_wp2
    simp [bodyPost, results, Try.results104, go_sem]
    exact ((Below.refl _ _).alloc (Nat.le_refl _) _).alloc (by simp) _
  · have hlt : n < 0 := by omega
    obtain ⟨e0, e1, e2, e3⟩ := wd_of_neg hlt h1
    have e : wI n = .agg #[.int .u64 (n % 18446744073709551616), .int .u64 18446744073709551615, .int .u64 18446744073709551615, .int .u64 18446744073709551615] := by unfold wI wC; rw [e0, e1, e2, e3]
    rw [e]
    clear e e0 e1 e2 e3
    go_enter Try.func104, Try.ntmps104
    go_wp2
    refine wp_loop_rounds 4 ?_
    iterate 4
      rw [rounds_succ]
      go_wp2
    simp [bodyPost, results, Try.results104, go_sem]
    exact ⟨by rw [IntKind.wrap_u64], ((Below.refl _ _).alloc (Nat.le_refl _) _).alloc (by simp) _⟩

set_option maxRecDepth 100000 in
theorem Compare_any (x y : Int) (w : World) :
    Calls Try.prog 66 #[.int .i64 x, .int .i64 y] w fun e w' => e = .returned (.int .i64 (cmpI x y)) ∧ Below w.heap.size w w' := by
  rcases Int.lt_trichotomy x y with h | h | h
  · rw [cmpI_lt h]
    go_enter Try.func66, Try.ntmps66
    go_wp2
    go_ret
    exact ⟨rfl, Below.refl _ _⟩
  · subst h
    rw [cmpI_eq]
    go_enter Try.func66, Try.ntmps66
    go_wp2
    go_ret
    exact ⟨rfl, Below.refl _ _⟩
  · rw [cmpI_gt h]
    go_enter Try.func66, Try.ntmps66
    go_wp2
    go_ret
    exact ⟨rfl, Below.refl _ _⟩

end Go.Proofs.Ytdlpfiiakmhnlaa
namespace Go.Proofs.Ytdlpfiiakmhnlaa

theorem ediv_pow (x : Int) (m n : Nat) : x / 2 ^ m / 2 ^ n = x / 2 ^ (m + n) := by
  rw [Int.ediv_ediv_of_nonneg (Int.le_of_lt (Int.pow_pos (by decide))), Int.pow_add]

theorem half (a : Int) (j : Nat) : a / 2 ^ j = 2 * (a / 2 ^ (j + 1)) + a / 2 ^ j % 2 := by
  have h : a / 2 ^ (j + 1) = a / 2 ^ j / 2 := (ediv_pow a j 1).symm
  rw [h]; omega

theorem div_unique {x b q r : Int} (h : x = b * q + r) (h0 : 0 ≤ r) (h1 : r < b) : x / b = q ∧ x % b = r := by
  have hb : b ≠ 0 := by omega
  subst h
  constructor
  · rw [Int.add_comm, Int.add_mul_ediv_left _ _ hb, Int.ediv_eq_zero_of_lt h0 h1, Int.zero_add]
  · rw [Int.add_comm, Int.add_mul_emod_self_left]; exact Int.emod_eq_of_lt h0 h1

end Go.Proofs.Ytdlpfiiakmhnlaa
namespace Go.Proofs.Ytdlpfiiakmhnlaa
open Go.RowKit

/-- where the division stands: the quotient and the rest so far -/
structure DivAt (w : World) (a b q r : Int) (wr : World) : Prop where
  va : Var wr w.heap.size a
  vb : Var wr (w.heap.size + 1) b
  vq : Var wr (w.heap.size + 1 + 1) q
  vr : Var wr (w.heap.size + 1 + 1 + 1) r
  below : Below w.heap.size w wr
theorem DivAt.of {w : World} {a b q r : Int} {wr w' : World} (h : DivAt w a b q r wr) (hn : Below wr.heap.size wr w') : DivAt w a b q r w' :=
  ⟨h.va.of hn, h.vb.of hn, h.vq.of hn, h.vr.of hn, h.below.trans (hn.mono h.below.size)⟩
end Go.Proofs.Ytdlpfiiakmhnlaa
namespace Go.Proofs.Ytdlpfiiakmhnlaa

def fr (x y : Int) : Int := if 0 ≤ y then x % y else -((-x) % (-y))

theorem sz_bd {x : Int} (h : InI x) : 0 ≤ sz x ∧ sz x ≤ b255 := by
  rw [sz_in h]; obtain ⟨h1, h2⟩ := h; unfold b255 at *; omega

end Go.Proofs.Ytdlpfiiakmhnlaa

namespace Go.Proofs.Ytdlpfiiakmhnlaa
open Go.RowKit

/-- where Div stands -/
structure DvAt (w : World) (x y n m : Int) (b1 b2 : Nat) (wr : World) : Prop where
  v0 : Var wr w.heap.size x
  v1 : Var wr (w.heap.size + 1) y
  v2 : Var wr (w.heap.size + 1 + 1) 0
  v3 : Var wr (w.heap.size + 1 + 1 + 1) 0
  vn : Var wr b1 n
  vm : Var wr b2 m
  hne : b1 ≠ b2
  lb1 : w.heap.size + 1 + 1 + 1 < b1
  lb2 : w.heap.size + 1 + 1 + 1 < b2
  below : Below w.heap.size w wr
theorem DvAt.of {w : World} {x y n m : Int} {b1 b2 : Nat} {wr w' : World} (h : DvAt w x y n m b1 b2 wr) (hn : Below wr.heap.size wr w') : DvAt w x y n m b1 b2 w' :=
  ⟨h.v0.of hn, h.v1.of hn, h.v2.of hn, h.v3.of hn, h.vn.of hn, h.vm.of hn, h.hne, h.lb1, h.lb2, h.below.trans (hn.mono h.below.size)⟩
theorem DvAt.setn {w : World} {x y n m : Int} {b1 b2 : Nat} {wr : World} (h : DvAt w x y n m b1 b2 wr) (z : Int) : DvAt w x y z m b1 b2
    ((((wr.setCell ⟨b1, 0, none⟩ (.int .u64 (wd0 z))).setCell ⟨b1, 1, none⟩ (.int .u64 (wd1 z))).setCell ⟨b1, 2, none⟩ (.int .u64 (wd2 z))).setCell ⟨b1, 3, none⟩ (.int .u64 (wd3 z))) := by
  have hl := h.lb1
  exact ⟨h.v0.set4 (by omega) _ _ _ _, h.v1.set4 (by omega) _ _ _ _, h.v2.set4 (by omega) _ _ _ _, h.v3.set4 (by omega) _ _ _ _, Var.put4 h.vn z, h.vm.set4 h.hne.symm _ _ _ _, h.hne, h.lb1, h.lb2, below_set4 h.below (by omega) _ _ _ _⟩
/-- where Div stands behind the quotient's sign -/
structure DwAt (w : World) (x y q m : Int) (b1 b2 : Nat) (wr : World) : Prop where
  v1 : Var wr (w.heap.size + 1) y
  v2 : Var wr (w.heap.size + 1 + 1) q
  v3 : Var wr (w.heap.size + 1 + 1 + 1) 0
  vm : Var wr b2 m
  lb2 : w.heap.size + 1 + 1 + 1 < b2
  below : Below w.heap.size w wr
theorem DwAt.of {w : World} {x y n m : Int} {b1 b2 : Nat} {wr w' : World} (h : DwAt w x y n m b1 b2 wr) (hn : Below wr.heap.size wr w') : DwAt w x y n m b1 b2 w' :=
  ⟨h.v1.of hn, h.v2.of hn, h.v3.of hn, h.vm.of hn, h.lb2, h.below.trans (hn.mono h.below.size)⟩
end Go.Proofs.Ytdlpfiiakmhnlaa
namespace Go.Proofs.Ytdlpfiiakmhnlaa
open Go.RowKit

/-- does a number fit? -/
def okI (x : Int) : Bool := decide (InI x)
theorem subB_ok {x y : Int} (ix : InI x) (iy : InI y) : subB x y = okI (x - y) := by
  unfold subB okI
  rw [ng_in ix, ng_in iy]
  have hs := ng_iff (x - y)
  obtain ⟨h1, h2⟩ := ix
  obtain ⟨h3, h4⟩ := iy
  rw [Bool.eq_iff_iff, decide_eq_true_iff]
  unfold InI
  cases hn : ng (x - y)
  · have hs' : ¬ b255 ≤ (x - y) % b256 := fun h => by rw [hs.2 h] at hn; cases hn
    by_cases a : x < 0 <;> by_cases b : y < 0 <;> simp [a, b] <;> unfold b255 b256 at * <;> omega
  · have hs' := hs.1 hn
    by_cases a : x < 0 <;> by_cases b : y < 0 <;> simp [a, b] <;> unfold b255 b256 at * <;> omega

theorem Sub_ok (x y : Int) (w : World) (ix : InI x) (iy : InI y) : Calls Try.prog 107 #[wI x, wI y] w fun e w' => e = .returned (.tuple #[wI (bif okI (x - y) then x - y else 0), .bool (okI (x - y))]) ∧ Below w.heap.size w w' := by
  rw [← subB_ok ix iy]; exact Sub_any x y w
end Go.Proofs.Ytdlpfiiakmhnlaa
namespace Go.Proofs.Ytdlpfiiakmhnlaa
open Go.RowKit

/-- a slice of ints that holds these digits -/
structure Sl (w : World) (ao : Option Addr) (b : Nat) (cap : Nat) (ds : List Int) : Prop where
  ptr : 0 < ds.length → ao = some ⟨b, 0, none⟩
  nil : ao = none → cap = 0
  capl : ds.length ≤ cap
  len : ds.length < 1073741824
  capb : cap ≤ 9223372036854775807
  cell : ∀ i, i < ds.length → w.cell? ⟨b, i, none⟩ = some (.int .i64 (ds.getD i 0))
  blk : 0 < ds.length → b < w.heap.size
theorem Sl.of {w w' : World} {ao : Option Addr} {b cap : Nat} {ds : List Int} (h : Sl w ao b cap ds) (hb : Below w.heap.size w w') : Sl w' ao b cap ds :=
  ⟨h.ptr, h.nil, h.capl, h.len, h.capb, fun i hi => by rw [hb.cell (p := ⟨b, i, none⟩) (h.blk (by omega))]; exact h.cell i hi, fun hl => Nat.lt_of_lt_of_le (h.blk hl) hb.size⟩

/-- a Big that is the number n, of at most L digits -/
def Big (w : World) (v : Value) (n : Int) (L : Nat) : Prop :=
  ∃ (neg : Bool) (ao : Option Addr) (b cap : Nat) (ds : List Int), v = .agg #[.bool neg, .slice ao ds.length cap] ∧ Sl w ao b cap ds ∧ DigOk ds ∧ Norm ds ∧ (ds = [] → neg = false ∧ ao = none) ∧ n = (bif neg then -dval ds else dval ds) ∧ ds.length ≤ L
theorem Big.of {w w' : World} {v : Value} {n : Int} {L : Nat} (h : Big w v n L) (hb : Below w.heap.size w w') : Big w' v n L := by
  obtain ⟨neg, ao, b, cap, ds, h1, h2, h3⟩ := h
  exact ⟨neg, ao, b, cap, ds, h1, h2.of hb, h3⟩
theorem Big.drew {w : World} {v : Value} {n : Int} {L : Nat} (h : Big w v n L) : Big w.drew v n L := h.of (Below.refl _ _).drew
theorem Big.zero (w : World) (L : Nat) : Big w (.agg #[.bool false, .slice none 0 0]) 0 L :=
  ⟨false, none, 0, 0, [], rfl, ⟨fun h => absurd h (Nat.lt_irrefl 0), fun _ => rfl, Nat.le_refl _, by decide, by decide, fun i hi => absurd hi (Nat.not_lt_zero i), fun h => absurd h (Nat.lt_irrefl 0)⟩, DigOk.nil, .inl rfl, fun _ => ⟨rfl, rfl⟩, rfl, Nat.zero_le _⟩
theorem Big.mono {w : World} {v : Value} {n : Int} {L L' : Nat} (h : Big w v n L) (hl : L ≤ L') : Big w v n L' := by
  obtain ⟨neg, ao, b, cap, ds, h1, h2, h3, h4, h5, h6, h7⟩ := h
  exact ⟨neg, ao, b, cap, ds, h1, h2, h3, h4, h5, h6, Nat.le_trans h7 hl⟩


/-- it hands back some Big that is n -/
def GivesBig (w : World) (n : Int) (L : Nat) (e : Ending) (w' : World) : Prop := ∃ v, e = .returned v ∧ Big w' v n L ∧ Below w.heap.size w w'

set_option maxRecDepth 100000 in
theorem Minus_any (v : Value) (n : Int) (L : Nat) (w : World) (h : Big w v n L) : Calls Try.prog 96 #[v] w (GivesBig w (-n) L) := by
  obtain ⟨neg, ao, b, cap, ds, rfl, hs, hd, hn, hz, hv, hl⟩ := h
  by_cases h0 : ds = []
  · subst h0
    obtain ⟨rfl, rfl⟩ := hz rfl
    have hc := hs.nil rfl
    subst hc
    have HV := Lib.hid hv
    clear hv hz hn hd hs
    have hlen : ([] : List Int).length = 0 := rfl
    rw [hlen]
    clear hlen
    go_enter Try.func96, Try.ntmps96
    go_wp2
    simp [bodyPost, results, Try.results96, go_sem]
    refine ⟨_, rfl, ?_, ?_⟩
    · rw [HV.out]; exact Big.zero _ _
    · (repeat (first | exact Below.refl _ _ | refine below_drewN ?_ _ | refine Below.drew ?_ | refine Below.alloc ?_ (by simp) _ | refine Below.alloc ?_ (by simp; omega) _))
  · have hlp : 0 < ds.length := List.length_pos_iff.2 h0
    have hl0 : ((ds.length : Int) == 0) = false := by simp; omega
    have hlb := hs.len
    have HV := Lib.hid hv
    have HS := Lib.hid hs
    have HD := Lib.hid (And.intro hd (And.intro hn hl))
    clear hz hv hs hd hn hl
    go_enter Try.func96, Try.ntmps96
    go_wp2
    simp [bodyPost, results, Try.results96, go_sem]
    have hb : Below w.heap.size w ((w.alloc (Obj.cells #[Value.bool neg, Value.slice ao ds.length cap] 109)).alloc (Obj.cells #[Value.bool !neg, Value.slice ao ds.length cap] 109)) := by
      (repeat (first | exact Below.refl _ _ | refine below_drewN ?_ _ | refine Below.drew ?_ | refine Below.alloc ?_ (by simp) _ | refine Below.alloc ?_ (by simp; omega) _))
    exact ⟨_, rfl, ⟨!neg, ao, b, cap, ds, rfl, HS.out.of hb, HD.out.1, HD.out.2.1, fun h => absurd h h0, by rw [HV.out]; cases neg <;> simp, HD.out.2.2⟩, hb⟩

set_option maxRecDepth 100000 in
set_option maxHeartbeats 1000000 in
theorem sizes_any (ao bo : Option Addr) (b b' cap cap' : Nat) (xs ys : List Int) (w : World) (ha : Sl w ao b cap xs) (hb : Sl w bo b' cap' ys) (da : DigOk xs) (db : DigOk ys) (na : Norm xs) (nb : Norm ys) :
    Calls Try.prog 82 #[.slice ao xs.length cap, .slice bo ys.length cap'] w fun e w' => e = .returned (.int .i64 (cmpI (dval xs) (dval ys))) ∧ Below w.heap.size w w' := by
 have HA := Lib.hid ha
 have HB := Lib.hid hb
 have la := ha.len
 have lb := hb.len
 clear ha hb
 rcases Nat.lt_trichotomy xs.length ys.length with h | h | h
 ·rw [cmpI_lt (len_lt da db nb h)]
  clear da db na nb
  go_enter Try.func82, Try.ntmps82
  go_wp2
  go_ret
  exact ⟨rfl, Below.refl _ _⟩
 ·obtain ⟨n, hn⟩ : ∃ n, n = xs.length := ⟨_, rfl⟩
  have hn' : n = ys.length := hn.trans h
  have HN := Lib.hid hn
  have HN' := Lib.hid hn'
  have e1 : xs.length = n := hn.symm
  have e2 : ys.length = n := hn'.symm
  rw [e1, e2]
  rw [e1] at la
  clear e1 e2 hn hn' h lb
  have D := Lib.hid (And.intro da db)
  clear da db na nb
  go_enter Try.func82, Try.ntmps82
  go_wp2
  go_loopw [5] (fun i wr => ∃ k : Nat, k ≤ n ∧ i = .int .i64 ((k : Int) - 1) ∧ Hid (xs.drop k = ys.drop k) ∧ Below w.heap.size w wr) (fun i _ => (intOf i + 1).toNat)
  case atStart => exact ⟨n, Nat.le_refl _, rfl, (by rw [List.drop_eq_nil_of_le (by rw [HN.out]; exact Nat.le_refl _), List.drop_eq_nil_of_le (by rw [HN'.out]; exact Nat.le_refl _)] : xs.drop n = ys.drop n), Below.refl _ _⟩
  case round =>
   rename_i i0 wr
   obtain ⟨k, hk, rfl, hd, hbl⟩ := hrel
   cases k with
   | zero =>
    have e1 : ((0 : Nat) : Int) - 1 = -1 := by omega
    rw [e1]
    clear e1
    go_wp2
    go_ret
    have e : dval xs = dval ys := by have := hd.out; simp only [List.drop_zero] at this; rw [this]
    exact ⟨by rw [e, cmpI_eq]; rfl, hbl⟩
   | succ j =>
    have e1 : ((j + 1 : Nat) : Int) - 1 = (j : Int) := by omega
    rw [e1]
    clear e1
    have ja : j < xs.length := by rw [← HN.out]; omega
    have jb : j < ys.length := by rw [← HN'.out]; omega
    obtain rfl := HA.out.ptr (by omega)
    obtain rfl := HB.out.ptr (by omega)
    have ba := HA.out.blk (by omega)
    have bb := HB.out.blk (by omega)
    have c0 : wr.cell? ⟨b, j, none⟩ = some (.int .i64 (xs.getD j 0)) := by rw [hbl.cell (p := ⟨b, j, none⟩) ba]; exact HA.out.cell j ja
    have c1 : wr.cell? ⟨b', j, none⟩ = some (.int .i64 (ys.getD j 0)) := by rw [hbl.cell (p := ⟨b', j, none⟩) bb]; exact HB.out.cell j jb
    have JA := Lib.hid (And.intro ja (HN.out.symm.trans HN'.out))
    clear ja jb ba bb
    obtain ⟨x, hx⟩ : ∃ x, x = xs.getD j 0 := ⟨_, rfl⟩
    obtain ⟨y, hy⟩ : ∃ y, y = ys.getD j 0 := ⟨_, rfl⟩
    rw [← hx] at c0
    rw [← hy] at c1
    have HX := Lib.hid hx
    have HY := Lib.hid hy
    clear hx hy
    rcases Int.lt_trichotomy x y with hxy | hxy | hxy
    ·go_wp2
     go_quiet (fail)
     go_wp2
     go_ret
     exact ⟨by rw [cmpI_lt (dig_lt D.out.1 D.out.2 JA.out.1 JA.out.2 hd.out (by rw [← HX.out, ← HY.out]; exact hxy))]; rfl, below_drewN hbl _⟩
    ·subst hxy
     go_wp2
     go_quiet (fail)
     go_wp2
     go_quiet (fail)
     go_wp2
     go_roundw
     case rel => exact ⟨j, by omega, rfl, drop_eq JA.out.1 JA.out.2 hd.out (by rw [← HX.out, ← HY.out]), below_drewN hbl _⟩
     case measure => simp [intOf]
    ·go_wp2
     go_quiet (fail)
     go_wp2
     go_quiet (fail)
     go_wp2
     go_ret
     exact ⟨by rw [cmpI_gt (dig_lt D.out.2 D.out.1 (by rw [← JA.out.2]; exact JA.out.1) JA.out.2.symm hd.out.symm (by rw [← HX.out, ← HY.out]; exact hxy))]; rfl, below_drewN (below_drewN hbl _) _⟩
 ·have e : dval ys < dval xs := len_lt db da na h
  rw [cmpI_gt e]
  clear da db na nb e
  go_enter Try.func82, Try.ntmps82
  go_wp2
  go_ret
  exact ⟨rfl, Below.refl _ _⟩

theorem cmpI_neg (x y : Int) : cmpI (-y) (-x) = cmpI x y := by
  rcases Int.lt_trichotomy x y with h | h | h
  · rw [cmpI_lt h, cmpI_lt (by omega)]
  · subst h; rw [cmpI_eq, cmpI_eq]
  · rw [cmpI_gt h, cmpI_gt (by omega)]

set_option maxRecDepth 100000 in
set_option maxHeartbeats 1000000 in
theorem bigCmp_any (v v' : Value) (n m : Int) (L L' : Nat) (w : World) (h : Big w v n L) (h' : Big w v' m L') :
    Calls Try.prog 59 #[v, v'] w fun e w' => e = .returned (.int .i64 (cmpI n m)) ∧ Below w.heap.size w w' := by
 obtain ⟨neg, ao, b, cap, ds, rfl, hs, hd, hn, hz, hv, hl⟩ := h
 obtain ⟨neg', ao', b', cap', ds', rfl, hs', hd', hn', hz', hv', hl'⟩ := h'
 have HV := Lib.hid hv
 have HV' := Lib.hid hv'
 have HS := Lib.hid hs
 have HS' := Lib.hid hs'
 have HD := Lib.hid (And.intro hd (And.intro hn hz))
 have HD' := Lib.hid (And.intro hd' (And.intro hn' hz'))
 clear hz hv hs hd hn hl hz' hv' hs' hd' hn' hl'
 have b0 := (dval_bd HD.out.1).1
 have b0' := (dval_bd HD'.out.1).1
 have pos : neg = true → 0 < dval ds := fun hneg => by
  rcases Int.lt_or_eq_of_le b0 with h | h
  ·exact h
  ·have := (HD.out.2.2 (norm_zero HD.out.1 HD.out.2.1 h.symm)).1; rw [hneg] at this; cases this
 have pos' : neg' = true → 0 < dval ds' := fun hneg => by
  rcases Int.lt_or_eq_of_le b0' with h | h
  ·exact h
  ·have := (HD'.out.2.2 (norm_zero HD'.out.1 HD'.out.2.1 h.symm)).1; rw [hneg] at this; cases this
 have PO := Lib.hid pos
 have PO' := Lib.hid pos'
 clear pos pos' b0 b0'
 have bl2 : ∀ c1 c2 : Array Value, Below w.heap.size w ((w.alloc (.cells c1 109)).alloc (.cells c2 109)) := fun c1 c2 => ((Below.refl _ _).alloc (Nat.le_refl _) _).alloc (by simp) _
 have BL := Lib.hid bl2
 clear bl2
 cases neg <;> cases neg'
 ·go_enter Try.func59, Try.ntmps59
  go_wp2_with fail
  refine (sizes_any ao ao' b b' cap cap' ds ds' _ (HS.out.of (BL.out _ _)) (HS'.out.of (BL.out _ _)) HD.out.1 HD'.out.1 HD.out.2.1 HD'.out.2.1).mono ?_
  rintro e w2 ⟨rfl, hn⟩
  go_wp2
  go_ret
  exact ⟨by rw [HV.out, HV'.out]; rfl, (BL.out _ _).trans (hn.mono (by simp; omega))⟩
 ·go_enter Try.func59, Try.ntmps59
  go_wp2
  go_ret
  refine ⟨?_, BL.out _ _⟩
  have e : m < n := by
   have h1 := (dval_bd HD.out.1).1; have h2 := PO'.out (by trivial)
   rw [HV.out, HV'.out]; simp only [cond_true, cond_false]; omega
  rw [cmpI_gt e]; rfl
 ·go_enter Try.func59, Try.ntmps59
  go_wp2
  go_ret
  refine ⟨?_, BL.out _ _⟩
  have e : n < m := by
   have h1 := (dval_bd HD'.out.1).1; have h2 := PO.out (by trivial)
   rw [HV.out, HV'.out]; simp only [cond_true, cond_false]; omega
  rw [cmpI_lt e]; rfl
 ·go_enter Try.func59, Try.ntmps59
  go_wp2_with fail
  refine (sizes_any ao' ao b' b cap' cap ds' ds _ (HS'.out.of (BL.out _ _)) (HS.out.of (BL.out _ _)) HD'.out.1 HD.out.1 HD'.out.2.1 HD.out.2.1).mono ?_
  rintro e w2 ⟨rfl, hn⟩
  go_wp2
  go_ret
  exact ⟨by rw [HV.out, HV'.out]; simp only [cond_true, cmpI_neg]; rfl, (BL.out _ _).trans (hn.mono (by simp; omega))⟩

theorem cmpI_sign (x : Int) : cmpI x 0 = x.sign := by
  rcases Int.lt_trichotomy x 0 with h | h | h
  · rw [cmpI_lt h, Int.sign_eq_neg_one_of_neg h]
  · subst h; rw [cmpI_eq]; rfl
  · rw [cmpI_gt h, Int.sign_eq_one_of_pos h]

set_option maxRecDepth 100000 in
theorem bigSign_any (v : Value) (n : Int) (L : Nat) (w : World) (h : Big w v n L) :
    Calls Try.prog 78 #[v] w fun e w' => e = .returned (.int .i64 n.sign) ∧ Below w.heap.size w w' := by
  rw [← cmpI_sign]
  have HB := Lib.hid h
  obtain ⟨neg, ao, b, cap, ds, rfl, h⟩ := h
  clear h
  go_enter Try.func78, Try.ntmps78
  go_wp2_with fail
  refine (bigCmp_any _ _ n 0 L L _ (HB.out.of ((Below.refl _ _).alloc (Nat.le_refl _) _)) (Big.zero _ _)).mono ?_
  rintro e w2 ⟨rfl, hn⟩
  go_wp2
  go_ret
  exact ⟨rfl, ((Below.refl _ _).alloc (Nat.le_refl _) _).trans (hn.mono (by simp))⟩
end Go.Proofs.Ytdlpfiiakmhnlaa
namespace Go.Proofs.Ytdlpfiiakmhnlaa
open Go.RowKit

theorem Sl.cut {w : World} {b cap : Nat} {ds : List Int} (h : Sl w (some ⟨b, 0, none⟩) b cap ds) {j : Nat} (hj : j < ds.length) : Sl w (some ⟨b, 0, none⟩) b cap (ds.take (j + 1)) := by
  have hl : (ds.take (j + 1)).length = j + 1 := by rw [List.length_take]; omega
  have h1 := h.capl
  have h2 := h.len
  refine ⟨fun _ => rfl, fun h => (by cases h), by omega, by omega, h.capb, fun i hi => ?_, fun _ => h.blk (by omega)⟩
  rw [hl] at hi
  rw [h.cell i (by omega)]
  simp [hi]
theorem Sl.below {w w' : World} {ao : Option Addr} {b cap : Nat} {ds : List Int} (h : Sl w ao b cap ds) (hb : Below w.heap.size w w') : Sl w' ao b cap ds := h.of hb

set_option maxRecDepth 100000 in
set_option maxHeartbeats 1000000 in
theorem trim_any (neg : Bool) (ao : Option Addr) (b cap : Nat) (ds : List Int) (w : World) (hs : Sl w ao b cap ds) (hd : DigOk ds) (L : Nat) (hL : ds.length ≤ L) :
    Calls Try.prog 80 #[.agg #[.bool neg, .slice ao ds.length cap]] w (GivesBig w (bif neg then -dval ds else dval ds) L) := by
 have HS := Lib.hid hs
 have HD := Lib.hid hd
 have HL := Lib.hid hL
 have ll := hs.len
 have cl := hs.capl
 have cb := hs.capb
 clear hs hd hL
 obtain ⟨N, hN⟩ : ∃ N, N = ds.length := ⟨_, rfl⟩
 have HN := Lib.hid hN
 rw [← hN] at ll cl ⊢
 clear hN
 go_enter Try.func80, Try.ntmps80
 go_wp2_with fail
 refine name_world ?_
 intro W hW
 have k0 : Blk W w.heap.size #[.bool neg, .slice ao N cap] 109 := by rw [hW]; exact (Blk.new _ _ _).alloc _
 have k1 : Blk W (w.heap.size + 1) #[.bool false, .slice none 0 0] 109 := by rw [hW]; exact Blk.new1 _ _ _ _
 have hb0 : Below w.heap.size w W := by rw [hW]; (repeat (first | exact Below.refl _ _ | refine below_drewN ?_ _ | refine Below.drew ?_ | refine Below.alloc ?_ (by simp) _ | refine Below.alloc ?_ (by simp; omega) _))
 clear hW
 have c0 := k0.cell 0
 have c1 := k0.cell 1
 simp only [List.getElem?_toArray, List.getElem?_cons_zero, List.getElem?_cons_succ] at c0 c1
 have d0 := k1.cell 0
 have d1 := k1.cell 1
 have f0 := k1.free 0
 have f1 := k1.free 1
 simp only [List.getElem?_toArray, List.getElem?_cons_zero, List.getElem?_cons_succ] at d0 d1
 have K0 := Lib.hid k0
 have K1 := Lib.hid k1
 have l0 := k0.lt
 clear k0 k1
 go_loopw [3] (fun i wr => ∃ k : Nat, k ≤ N ∧ i = .int .i64 k ∧ Hid (dval (ds.take k) = dval ds) ∧ W = wr) (fun i _ => (intOf i).toNat)
 case atStart => exact ⟨N, Nat.le_refl _, rfl, (by rw [List.take_of_length_le (by rw [HN.out]; exact Nat.le_refl _)] : dval (ds.take N) = dval ds), rfl⟩
 case round =>
  rename_i i0 wr
  obtain ⟨k, hk, rfl, hd, rfl⟩ := hrel
  cases k with
  | zero =>
   have hz : dval ds = 0 := by have := hd.out; rw [List.take_zero] at this; exact this.symm
   have HZ := Lib.hid hz
   clear hz hd
   go_wp2
   simp [bodyPost, results, Try.results80, go_sem, d0, d1]
   refine ⟨_, rfl, ?_, ?_⟩
   ·have e : (bif neg then -dval ds else dval ds) = 0 := by rw [HZ.out]; cases neg <;> rfl
    rw [e]; exact Big.zero _ _
   ·refine Below.setCell (Below.setCell hb0 ?_ _) ?_ _ <;> exact Nat.le_succ _
  | succ j =>
   have ja : j < ds.length := by rw [← HN.out]; omega
   obtain rfl := HS.out.ptr (by omega)
   have ba := HS.out.blk (by omega)
   have e0 : W.cell? ⟨b, j, none⟩ = some (.int .i64 (ds.getD j 0)) := by rw [hb0.cell (p := ⟨b, j, none⟩) ba]; exact HS.out.cell j ja
   obtain ⟨x, hx⟩ : ∃ x, x = ds.getD j 0 := ⟨_, rfl⟩
   rw [← hx] at e0
   have HX := Lib.hid hx
   have JA := Lib.hid ja
   clear hx ja ba
   have e1 : ((j + 1 : Nat) : Int) - 1 = (j : Int) := by omega
   by_cases hx0 : x = 0
   ·subst hx0
    go_wp2
    go_roundw
    case rel => exact ⟨j, by omega, by go_num, dval_take_zero JA.out HX.out.symm hd.out, trivial⟩
    case measure => simp [intOf]
   ·have hx1 : (x == 0) = false := by simpa using hx0
    have HX0 := Lib.hid hx0
    clear hx0
    go_wp2_with fail
    have D0 := Lib.hid d0
    have D1 := Lib.hid d1
    clear d0 d1
    have hj1 : (0 : Int) ≤ ((j + 1 : Nat) : Int) := by omega
    refine wp_region_up W.heap.size 6 [(true, 0), (true, 1), (true, 2), (true, 3), (true, 4), (true, 5)] (by kernel_rfl) (by kernel_rfl) (fun _ _ d _ _ h => by cases d <;> exact h) ?_
    have hb : Below W.heap.size W W.drew := (Below.refl _ _).drew
    iterate 6
     refine wpS_takeL rfl rfl ?_
     go_big_quiet_step (rfl)
     refine wpQuiet_nil ?_
    refine wpS_nil ?_
    simp only [List.drop_succ_cons, List.drop_zero]
    have d0 := D0.out
    have d1 := D1.out
    go_wp2
    simp [bodyPost, results, Try.results80, go_sem, d0, d1]
    have hbl : Below w.heap.size w ((W.setCell ⟨w.heap.size + 1, 0, none⟩ (.bool neg)).setCell ⟨w.heap.size + 1, 1, none⟩ (.slice (some ⟨b, 0, none⟩) (j + 1) cap)).drew := by
     refine (Below.setCell (Below.setCell hb0 ?_ _) ?_ _).drew <;> exact Nat.le_succ _
    have hlen : (ds.take (j + 1)).length = j + 1 := by rw [List.length_take]; have := JA.out; omega
    refine ⟨_, rfl, ⟨neg, some ⟨b, 0, none⟩, b, cap, ds.take (j + 1), by rw [hlen], ?_, HD.out.take _, .inr ?_, fun h => ?_, by rw [hd.out], ?_⟩, hbl⟩
    ·exact (HS.out.of hbl).cut JA.out
    ·rw [hlen]
     have := HX0.out
     rw [HX.out] at this
     simpa [List.getElem?_take] using this
    ·rw [h] at hlen; simp at hlen
    ·rw [hlen]; have := HL.out; have := JA.out; omega
end Go.Proofs.Ytdlpfiiakmhnlaa
namespace Go.Proofs.Ytdlpfiiakmhnlaa
open Go.RowKit

theorem info_int : (Try.prog.info? 3).map (fun i => (i.zero, i.size, i.bytes)) = some (some (.int .i64 0), 1, 8) := by kernel_rfl

/-- the digits as Go values -/
def dg (ds : List Int) : List Value := ds.map (Value.int .i64)
theorem dg_snoc (ds : List Int) (d : Int) : dg (ds ++ [d]) = dg ds ++ [.int .i64 d] := by unfold dg; rw [List.map_append]; rfl

theorem own_sl {w : World} {base n : Nat} {v : Value} {ds : List Int} (h : w.ownsRow base 3 1 v n (dg ds)) (hn : ds.length = n) (hl : n < 1073741824) :
    ∃ ao b cap, v = .slice ao ds.length cap ∧ Sl w ao b cap ds := by
  subst hn
  rcases h.2 with ⟨h1, h2⟩ | ⟨g, cap, cur, h1, h2, h3, h4, h5, h6, h7⟩
  · have : ds = [] := List.length_eq_zero_iff.1 h2
    subst this
    exact ⟨none, 0, 0, h1, ⟨fun h => absurd h (Nat.lt_irrefl 0), fun _ => rfl, Nat.le_refl _, by decide, by decide, fun i hi => absurd hi (Nat.not_lt_zero i), fun h => absurd h (Nat.lt_irrefl 0)⟩⟩
  · refine ⟨some ⟨g, 0, none⟩, g, cap, h1, ⟨fun _ => rfl, fun h => (by cases h), h4, hl, by unfold maxLen at h5; omega, fun i hi => ?_, fun _ => (Array.getElem?_eq_some_iff.1 h3).1⟩⟩
    subst h1
    rw [World.ownsRow.cellAt h i (by omega)]
    unfold dg
    simp [hi]

theorem dval_take_succ (ds : List Int) (k : Nat) : dval (ds.take (k + 1)) = dval (ds.take k) + P15 k * ds.getD k 0 := by
  rcases Nat.lt_or_ge k ds.length with h | h
  · rw [List.take_succ_eq_append_getElem h, dval_append, List.length_take, Nat.min_eq_left (by omega), getD_in' h]
    simp [dval]
  · rw [List.take_of_length_le (by omega), List.take_of_length_le h, getD_out h]; simp

/-- one round of more -/
theorem more_step {xs ys ds : List Int} {k : Nat} {cv x y : Int} (hx : x = xs.getD k 0) (hy : y = ys.getD k 0) (b1 : 0 ≤ x ∧ x < 32768) (b2 : 0 ≤ y ∧ y < 32768) (b3 : 0 ≤ cv ∧ cv ≤ 1)
    (h : DigOk ds ∧ ds.length = k ∧ dval ds + P15 k * cv = dval (xs.take k) + dval (ys.take k)) :
    (0 ≤ (cv + x + y) / 32768 ∧ (cv + x + y) / 32768 ≤ 1) ∧ DigOk (ds ++ [(cv + x + y) % 32768]) ∧ (ds ++ [(cv + x + y) % 32768]).length = k + 1 ∧
      dval (ds ++ [(cv + x + y) % 32768]) + P15 (k + 1) * ((cv + x + y) / 32768) = dval (xs.take (k + 1)) + dval (ys.take (k + 1)) := by
  obtain ⟨h1, h2, h3⟩ := h
  refine ⟨by omega, h1.append (DigOk.one (by omega)), by rw [List.length_append, h2]; rfl, ?_⟩
  rw [dval_append, h2, dval_take_succ, dval_take_succ, ← hx, ← hy, P15_succ]
  have e : P15 k * dval [(cv + x + y) % 32768] + 32768 * P15 k * ((cv + x + y) / 32768) = P15 k * (cv + x + y) := by
    have : dval [(cv + x + y) % 32768] = (cv + x + y) % 32768 := by simp [dval]
    rw [this, Int.mul_comm 32768 (P15 k), Int.mul_assoc, ← Int.mul_add, Int.emod_add_mul_ediv]
  rw [Int.mul_add, Int.mul_add] at e
  omega

/-- some slice of digits comes back -/
def GivesDig (w : World) (n : Int) (L : Nat) (e : Ending) (w' : World) : Prop :=
  ∃ (ao : Option Addr) (b cap : Nat) (ds : List Int), e = .returned (.slice ao ds.length cap) ∧ Sl w' ao b cap ds ∧ DigOk ds ∧ dval ds = n ∧ ds.length = L ∧ Below w.heap.size w w'

set_option maxRecDepth 100000 in
set_option maxHeartbeats 4000000 in
theorem more_any (ao bo : Option Addr) (b b' cap cap' : Nat) (xs ys : List Int) (w : World) (ha : Sl w ao b cap xs) (hb : Sl w bo b' cap' ys) (hl1 : xs.length < 536870912) (hl2 : ys.length < 536870912) (da : DigOk xs) (db : DigOk ys) :
    Calls Try.prog 81 #[.slice ao xs.length cap, .slice bo ys.length cap'] w (GivesDig w (dval xs + dval ys) (max xs.length ys.length + 1)) := by
 obtain ⟨i0, hi, hz0, hz1, hz2⟩ := info_parts info_int
 have HA := Lib.hid ha
 have HB := Lib.hid hb
 have D := Lib.hid (And.intro da db)
 have la := hl1
 have lb := hl2
 clear ha hb da db hl1 hl2
 obtain ⟨N, hN⟩ : ∃ N, N = xs.length := ⟨_, rfl⟩
 obtain ⟨M, hM⟩ : ∃ M, M = ys.length := ⟨_, rfl⟩
 have HN := Lib.hid hN
 have HM := Lib.hid hM
 rw [← hN] at la ⊢
 rw [← hM] at lb ⊢
 clear hN hM
 go_enter Try.func81, Try.ntmps81
 go_wp2_with fail
 go_loopw [5, 6, 7] (fun out c i wr => ∃ (k : Nat) (cv : Int) (ds : List Int), (k ≤ N ∨ k ≤ M) ∧ i = .int .i64 k ∧ c = .int .i64 cv ∧ 0 ≤ cv ∧ cv ≤ 1 ∧ wr.ownsRow w.heap.size 3 1 out k (dg ds) ∧
   Hid (DigOk ds ∧ ds.length = k ∧ dval ds + P15 k * cv = dval (xs.take k) + dval (ys.take k)) ∧ Below w.heap.size w wr) (fun _ _ i _ => N + M - (intOf i).toNat)
 case atStart => exact ⟨0, 0, [], .inl (Nat.zero_le _), rfl, rfl, by decide, by decide, World.ownsRow_nil _ _ _ _, ⟨DigOk.nil, rfl, by simp [dval]⟩, Below.refl _ _⟩
 case round =>
  rename_i wr
  obtain ⟨k, cv, ds, hk, rfl, rfl, cv0, cv1, hown, hds, hbl⟩ := hrel
  by_cases h1 : k < N
  ·by_cases h2 : k < M
   ·have ja : k < xs.length := by rw [← HN.out]; exact h1
    obtain rfl := HA.out.ptr (by omega)
    have e0 : wr.cell? ⟨b, k, none⟩ = some (.int .i64 (xs.getD k 0)) := by rw [hbl.cell (p := ⟨b, k, none⟩) (HA.out.blk (by omega))]; exact HA.out.cell k ja
    clear ja
    have jb : k < ys.length := by rw [← HM.out]; exact h2
    obtain rfl := HB.out.ptr (by omega)
    have e1 : wr.cell? ⟨b', k, none⟩ = some (.int .i64 (ys.getD k 0)) := by rw [hbl.cell (p := ⟨b', k, none⟩) (HB.out.blk (by omega))]; exact HB.out.cell k jb
    clear jb
    obtain ⟨x0, x1⟩ := D.out.1.get k
    obtain ⟨y0, y1⟩ := D.out.2.get k
    obtain ⟨x, hx⟩ : ∃ x, x = xs.getD k 0 := ⟨_, rfl⟩
    obtain ⟨y, hy⟩ : ∃ y, y = ys.getD k 0 := ⟨_, rfl⟩
    rw [← hx] at x0 x1 e0
    rw [← hy] at y0 y1 e1
    have hst := more_step hx hy ⟨x0, x1⟩ ⟨y0, y1⟩ ⟨cv0, cv1⟩ hds.out
    have ST := Lib.hid hst
    have HX := Lib.hid hx
    have HY := Lib.hid hy
    clear hst hx hy hds
    go_wp2_with (at_builtin; refine wpList_append_own _ rfl _ _ 29 rfl w.heap.size 3 i0 (.int .i64 0) 1 8 Try.underlying29 hi hz0 hz1 hz2 rfl (by decide) _ _ _ rfl (hown.alloc _) ⟨wr.heap.size, 0, none⟩ 1 1 [.int .i64 ((cv + x + y) % 32768)] rfl rfl ?c1 ?c2 ?c3 ?c4 ?c5 ?_)
    case c1 =>
     intro j u hj
     match j, hj with
     | 0, hj => simp at hj; subst hj; simp [Addr.add]
    case c2 => intro u hu; simp at hu; subst hu; rfl
    case c3 => unfold maxLen; omega
    case c4 => omega
    case c5 => have := hbl.size; simp; omega
    intro v' w1 hown' hgrow _
    have hb1 : Below w.heap.size w w1 := (hbl.alloc hbl.size _).grown hgrow (by have := hbl.size; simp; omega) (fun k hk => (hown.lt k hk).1)
    rw [← dg_snoc] at hown'
    clear hown hbl hgrow
    go_wp2
    go_roundw
    case rel => exact ⟨k + 1, (cv + x + y) / 32768, _, by omega, by go_num, rfl, ST.out.1.1, ST.out.1.2, hown', ST.out.2, hb1⟩
    case measure => simp [intOf]; omega
   ·have ja : k < xs.length := by rw [← HN.out]; exact h1
    obtain rfl := HA.out.ptr (by omega)
    have e0 : wr.cell? ⟨b, k, none⟩ = some (.int .i64 (xs.getD k 0)) := by rw [hbl.cell (p := ⟨b, k, none⟩) (HA.out.blk (by omega))]; exact HA.out.cell k ja
    clear ja
    obtain ⟨x0, x1⟩ := D.out.1.get k
    obtain ⟨y0, y1⟩ := D.out.2.get k
    obtain ⟨x, hx⟩ : ∃ x, x = xs.getD k 0 := ⟨_, rfl⟩
    obtain ⟨y, hy⟩ : ∃ y, y = ys.getD k 0 := ⟨_, rfl⟩
    rw [← hx] at x0 x1 e0
    rw [← hy] at y0 y1
    have hst := more_step hx hy ⟨x0, x1⟩ ⟨y0, y1⟩ ⟨cv0, cv1⟩ hds.out
    have hy0 : y = 0 := hy.trans (getD_out (by rw [← HM.out]; omega))
    subst hy0
    simp only [Int.add_zero] at hst
    have ST := Lib.hid hst
    have HX := Lib.hid hx
    have HY := Lib.hid hy
    clear hst hx hy hds
    go_wp2_with (at_builtin; refine wpList_append_own _ rfl _ _ 29 rfl w.heap.size 3 i0 (.int .i64 0) 1 8 Try.underlying29 hi hz0 hz1 hz2 rfl (by decide) _ _ _ rfl (hown.alloc _) ⟨wr.heap.size, 0, none⟩ 1 1 [.int .i64 ((cv + x) % 32768)] rfl rfl ?c1 ?c2 ?c3 ?c4 ?c5 ?_)
    case c1 =>
     intro j u hj
     match j, hj with
     | 0, hj => simp at hj; subst hj; simp [Addr.add]
    case c2 => intro u hu; simp at hu; subst hu; rfl
    case c3 => unfold maxLen; omega
    case c4 => omega
    case c5 => have := hbl.size; simp; omega
    intro v' w1 hown' hgrow _
    have hb1 : Below w.heap.size w w1 := (hbl.alloc hbl.size _).grown hgrow (by have := hbl.size; simp; omega) (fun k hk => (hown.lt k hk).1)
    rw [← dg_snoc] at hown'
    clear hown hbl hgrow
    go_wp2
    go_roundw
    case rel => exact ⟨k + 1, (cv + x) / 32768, _, by omega, by go_num, rfl, ST.out.1.1, ST.out.1.2, hown', ST.out.2, hb1⟩
    case measure => simp [intOf]; omega
  ·by_cases h2 : k < M
   ·have jb : k < ys.length := by rw [← HM.out]; exact h2
    obtain rfl := HB.out.ptr (by omega)
    have e1 : wr.cell? ⟨b', k, none⟩ = some (.int .i64 (ys.getD k 0)) := by rw [hbl.cell (p := ⟨b', k, none⟩) (HB.out.blk (by omega))]; exact HB.out.cell k jb
    clear jb
    obtain ⟨x0, x1⟩ := D.out.1.get k
    obtain ⟨y0, y1⟩ := D.out.2.get k
    obtain ⟨x, hx⟩ : ∃ x, x = xs.getD k 0 := ⟨_, rfl⟩
    obtain ⟨y, hy⟩ : ∃ y, y = ys.getD k 0 := ⟨_, rfl⟩
    rw [← hx] at x0 x1
    rw [← hy] at y0 y1 e1
    have hst := more_step hx hy ⟨x0, x1⟩ ⟨y0, y1⟩ ⟨cv0, cv1⟩ hds.out
    have hx0 : x = 0 := hx.trans (getD_out (by rw [← HN.out]; omega))
    subst hx0
    rw [Int.add_zero] at hst
    have ST := Lib.hid hst
    have HX := Lib.hid hx
    have HY := Lib.hid hy
    clear hst hx hy hds
    go_wp2_with (at_builtin; refine wpList_append_own _ rfl _ _ 29 rfl w.heap.size 3 i0 (.int .i64 0) 1 8 Try.underlying29 hi hz0 hz1 hz2 rfl (by decide) _ _ _ rfl (hown.alloc _) ⟨wr.heap.size, 0, none⟩ 1 1 [.int .i64 ((cv + y) % 32768)] rfl rfl ?c1 ?c2 ?c3 ?c4 ?c5 ?_)
    case c1 =>
     intro j u hj
     match j, hj with
     | 0, hj => simp at hj; subst hj; simp [Addr.add]
    case c2 => intro u hu; simp at hu; subst hu; rfl
    case c3 => unfold maxLen; omega
    case c4 => omega
    case c5 => have := hbl.size; simp; omega
    intro v' w1 hown' hgrow _
    have hb1 : Below w.heap.size w w1 := (hbl.alloc hbl.size _).grown hgrow (by have := hbl.size; simp; omega) (fun k hk => (hown.lt k hk).1)
    rw [← dg_snoc] at hown'
    clear hown hbl hgrow
    go_wp2
    go_roundw
    case rel => exact ⟨k + 1, (cv + y) / 32768, _, by omega, by go_num, rfl, ST.out.1.1, ST.out.1.2, hown', ST.out.2, hb1⟩
    case measure => simp [intOf]; omega
   ·have ST := Lib.hid hds.out
    clear hds
    go_wp2_with (at_builtin; refine wpList_append_own _ rfl _ _ 29 rfl w.heap.size 3 i0 (.int .i64 0) 1 8 Try.underlying29 hi hz0 hz1 hz2 rfl (by decide) _ _ _ rfl (hown.alloc _) ⟨wr.heap.size, 0, none⟩ 1 1 [.int .i64 cv] rfl rfl ?c1 ?c2 ?c3 ?c4 ?c5 ?_)
    case c1 =>
     intro j u hj
     match j, hj with
     | 0, hj => simp at hj; subst hj; simp [Addr.add]
    case c2 => intro u hu; simp at hu; subst hu; rfl
    case c3 => unfold maxLen; omega
    case c4 => omega
    case c5 => have := hbl.size; simp; omega
    intro v' w1 hown' hgrow _
    have hb1 : Below w.heap.size w w1 := (hbl.alloc hbl.size _).grown hgrow (by have := hbl.size; simp; omega) (fun k hk => (hown.lt k hk).1)
    rw [← dg_snoc] at hown'
    clear hown hbl hgrow
    go_wp2
    go_ret
    obtain ⟨g1, g2, g3⟩ := ST.out
    have gl : (ds ++ [cv]).length = k + 1 := by rw [List.length_append, g2]; rfl
    obtain ⟨ao2, b2, cap2, hv, hsl⟩ := own_sl hown' gl (by omega)
    refine ⟨ao2, b2, cap2, ds ++ [cv], ?_, hsl, g1.append (DigOk.one ⟨cv0, by omega⟩), ?_, ?_, hb1⟩
    ·rw [← hv]; rfl
    ·rw [dval_append, g2]
     have : dval [cv] = cv := by simp [dval]
     rw [this, g3, List.take_of_length_le (by rw [← HN.out]; omega), List.take_of_length_le (by rw [← HM.out]; omega)]
    ·rw [gl]; omega
end Go.Proofs.Ytdlpfiiakmhnlaa
namespace Go.Proofs.Ytdlpfiiakmhnlaa
open Go.RowKit

theorem one_new (w : World) (v : Value) (t : TypeId) : ∀ j u, [v][j]? = some u → (w.alloc (.cells #[v] t)).cell? ((⟨w.heap.size, 0, none⟩ : Addr).add j) = some u := by
  intro j u hj
  match j, hj with
  | 0, hj => simp at hj; subst hj; simp [Addr.add]
theorem one_cell (n : Int) : ∀ u ∈ [Value.int .i64 n], u.oneCell' = true := by intro u hu; simp at hu; subst hu; rfl

/-- one round of less -/
theorem less_step {xs ys ds : List Int} {k : Nat} {bw x y d c : Int} (hx : x = xs.getD k 0) (hy : y = ys.getD k 0) (hd : 0 ≤ d ∧ d < 32768) (hc : d - 32768 * c = x - bw - y)
    (h : DigOk ds ∧ ds.length = k ∧ dval ds - P15 k * bw = dval (xs.take k) - dval (ys.take k)) :
    DigOk (ds ++ [d]) ∧ (ds ++ [d]).length = k + 1 ∧ dval (ds ++ [d]) - P15 (k + 1) * c = dval (xs.take (k + 1)) - dval (ys.take (k + 1)) := by
  obtain ⟨h1, h2, h3⟩ := h
  refine ⟨h1.append (DigOk.one hd), by rw [List.length_append, h2]; rfl, ?_⟩
  rw [dval_append, h2, dval_take_succ, dval_take_succ, ← hx, ← hy, P15_succ]
  have e : P15 k * dval [d] - 32768 * P15 k * c = P15 k * (x - bw - y) := by
    have : dval [d] = d := by simp [dval]
    rw [this, ← hc, Int.mul_comm 32768 (P15 k), Int.mul_assoc, Int.mul_sub]
  rw [Int.mul_sub, Int.mul_sub] at e
  omega

set_option maxRecDepth 100000 in
set_option maxHeartbeats 4000000 in
theorem less_any (ao bo : Option Addr) (b b' cap cap' : Nat) (xs ys : List Int) (w : World) (ha : Sl w ao b cap xs) (hb : Sl w bo b' cap' ys) (hl1 : xs.length < 536870912) (da : DigOk xs) (db : DigOk ys) (hle : ys.length ≤ xs.length) (hge : dval ys ≤ dval xs) :
    Calls Try.prog 83 #[.slice ao xs.length cap, .slice bo ys.length cap'] w (GivesDig w (dval xs - dval ys) xs.length) := by
 obtain ⟨i0, hi, hz0, hz1, hz2⟩ := info_parts info_int
 have HA := Lib.hid ha
 have HB := Lib.hid hb
 have D := Lib.hid (And.intro da db)
 have G := Lib.hid hge
 have la := hl1
 clear ha hb da db hl1 hge
 obtain ⟨N, hN⟩ : ∃ N, N = xs.length := ⟨_, rfl⟩
 obtain ⟨M, hM⟩ : ∃ M, M = ys.length := ⟨_, rfl⟩
 have HN := Lib.hid hN
 have HM := Lib.hid hM
 rw [← hN] at la hle ⊢
 rw [← hM] at hle ⊢
 clear hN hM
 go_enter Try.func83, Try.ntmps83
 go_wp2_with fail
 go_loopw [5, 6, 7] (fun out c i wr => ∃ (k : Nat) (cv : Int) (ds : List Int), k ≤ N ∧ i = .int .i64 k ∧ c = .int .i64 cv ∧ 0 ≤ cv ∧ cv ≤ 1 ∧ wr.ownsRow w.heap.size 3 1 out k (dg ds) ∧
   Hid (DigOk ds ∧ ds.length = k ∧ dval ds - P15 k * cv = dval (xs.take k) - dval (ys.take k)) ∧ Below w.heap.size w wr) (fun _ _ i _ => N - (intOf i).toNat)
 case atStart => exact ⟨0, 0, [], Nat.zero_le _, rfl, rfl, by decide, by decide, World.ownsRow_nil _ _ _ _, ⟨DigOk.nil, rfl, by simp [dval]⟩, Below.refl _ _⟩
 case round =>
  rename_i wr
  obtain ⟨k, cv, ds, hk, rfl, rfl, cv0, cv1, hown, hds, hbl⟩ := hrel
  by_cases h1 : k < N
  ·by_cases h2 : k < M
   ·have ja : k < xs.length := by rw [← HN.out]; exact h1
    obtain rfl := HA.out.ptr (by omega)
    have e0 : wr.cell? ⟨b, k, none⟩ = some (.int .i64 (xs.getD k 0)) := by rw [hbl.cell (p := ⟨b, k, none⟩) (HA.out.blk (by omega))]; exact HA.out.cell k ja
    clear ja
    have jb : k < ys.length := by rw [← HM.out]; exact h2
    obtain rfl := HB.out.ptr (by omega)
    have e1 : wr.cell? ⟨b', k, none⟩ = some (.int .i64 (ys.getD k 0)) := by rw [hbl.cell (p := ⟨b', k, none⟩) (HB.out.blk (by omega))]; exact HB.out.cell k jb
    clear jb
    obtain ⟨x0, x1⟩ := D.out.1.get k
    obtain ⟨y0, y1⟩ := D.out.2.get k
    obtain ⟨x, hx⟩ : ∃ x, x = xs.getD k 0 := ⟨_, rfl⟩
    obtain ⟨y, hy⟩ : ∃ y, y = ys.getD k 0 := ⟨_, rfl⟩
    rw [← hx] at x0 x1 e0
    rw [← hy] at y0 y1 e1
    by_cases hneg : x - cv - y < 0
    ·have hst := less_step (d := x - cv - y + 32768) (c := 1) hx hy (by omega) (by omega) hds.out
     have ST := Lib.hid hst
     have HX := Lib.hid hx
     have HY := Lib.hid hy
     clear hst hx hy hds
     go_wp2_with (at_builtin; refine wpList_append_own _ rfl _ _ 29 rfl w.heap.size 3 i0 (.int .i64 0) 1 8 Try.underlying29 hi hz0 hz1 hz2 rfl (by decide) _ _ _ rfl (hown.alloc _) ⟨wr.heap.size, 0, none⟩ 1 1 [.int .i64 (x - cv - y + 32768)] rfl rfl (one_new _ _ _) (one_cell _) (by unfold maxLen; omega) (by omega) (by have := hbl.size; simp; omega) ?_; intro v' w1 hown' hgrow _)
     have hb1 : Below w.heap.size w w1 := (hbl.alloc hbl.size _).grown hgrow (by have := hbl.size; simp; omega) (fun k hk => (hown.lt k hk).1)
     rw [← dg_snoc] at hown'
     clear hown hbl hgrow
     go_wp2
     go_roundw
     case rel => exact ⟨k + 1, 1, _, by omega, by go_num, rfl, by decide, by decide, hown', ST.out, hb1⟩
     case measure => simp [intOf]; omega
    ·have hst := less_step (d := x - cv - y) (c := 0) hx hy (by omega) (by omega) hds.out
     have ST := Lib.hid hst
     have HX := Lib.hid hx
     have HY := Lib.hid hy
     clear hst hx hy hds
     go_wp2_with (at_builtin; refine wpList_append_own _ rfl _ _ 29 rfl w.heap.size 3 i0 (.int .i64 0) 1 8 Try.underlying29 hi hz0 hz1 hz2 rfl (by decide) _ _ _ rfl (hown.alloc _) ⟨wr.heap.size, 0, none⟩ 1 1 [.int .i64 (x - cv - y)] rfl rfl (one_new _ _ _) (one_cell _) (by unfold maxLen; omega) (by omega) (by have := hbl.size; simp; omega) ?_; intro v' w1 hown' hgrow _)
     have hb1 : Below w.heap.size w w1 := (hbl.alloc hbl.size _).grown hgrow (by have := hbl.size; simp; omega) (fun k hk => (hown.lt k hk).1)
     rw [← dg_snoc] at hown'
     clear hown hbl hgrow
     go_wp2
     go_roundw
     case rel => exact ⟨k + 1, 0, _, by omega, by go_num, rfl, by decide, by decide, hown', ST.out, hb1⟩
     case measure => simp [intOf]; omega
   ·have ja : k < xs.length := by rw [← HN.out]; exact h1
    obtain rfl := HA.out.ptr (by omega)
    have e0 : wr.cell? ⟨b, k, none⟩ = some (.int .i64 (xs.getD k 0)) := by rw [hbl.cell (p := ⟨b, k, none⟩) (HA.out.blk (by omega))]; exact HA.out.cell k ja
    clear ja
    obtain ⟨x0, x1⟩ := D.out.1.get k
    obtain ⟨y0, y1⟩ := D.out.2.get k
    obtain ⟨x, hx⟩ : ∃ x, x = xs.getD k 0 := ⟨_, rfl⟩
    obtain ⟨y, hy⟩ : ∃ y, y = ys.getD k 0 := ⟨_, rfl⟩
    rw [← hx] at x0 x1 e0
    rw [← hy] at y0 y1
    have hy0 : y = 0 := hy.trans (getD_out (by rw [← HM.out]; omega))
    subst hy0
    by_cases hneg : x - cv < 0
    ·have hst := less_step (d := x - cv + 32768) (c := 1) hx hy (by omega) (by omega) hds.out
     have ST := Lib.hid hst
     have HX := Lib.hid hx
     have HY := Lib.hid hy
     clear hst hx hy hds
     go_wp2_with (at_builtin; refine wpList_append_own _ rfl _ _ 29 rfl w.heap.size 3 i0 (.int .i64 0) 1 8 Try.underlying29 hi hz0 hz1 hz2 rfl (by decide) _ _ _ rfl (hown.alloc _) ⟨wr.heap.size, 0, none⟩ 1 1 [.int .i64 (x - cv + 32768)] rfl rfl (one_new _ _ _) (one_cell _) (by unfold maxLen; omega) (by omega) (by have := hbl.size; simp; omega) ?_; intro v' w1 hown' hgrow _)
     have hb1 : Below w.heap.size w w1 := (hbl.alloc hbl.size _).grown hgrow (by have := hbl.size; simp; omega) (fun k hk => (hown.lt k hk).1)
     rw [← dg_snoc] at hown'
     clear hown hbl hgrow
     go_wp2
     go_roundw
     case rel => exact ⟨k + 1, 1, _, by omega, by go_num, rfl, by decide, by decide, hown', ST.out, hb1⟩
     case measure => simp [intOf]; omega
    ·have hst := less_step (d := x - cv) (c := 0) hx hy (by omega) (by omega) hds.out
     have ST := Lib.hid hst
     have HX := Lib.hid hx
     have HY := Lib.hid hy
     clear hst hx hy hds
     go_wp2_with (at_builtin; refine wpList_append_own _ rfl _ _ 29 rfl w.heap.size 3 i0 (.int .i64 0) 1 8 Try.underlying29 hi hz0 hz1 hz2 rfl (by decide) _ _ _ rfl (hown.alloc _) ⟨wr.heap.size, 0, none⟩ 1 1 [.int .i64 (x - cv)] rfl rfl (one_new _ _ _) (one_cell _) (by unfold maxLen; omega) (by omega) (by have := hbl.size; simp; omega) ?_; intro v' w1 hown' hgrow _)
     have hb1 : Below w.heap.size w w1 := (hbl.alloc hbl.size _).grown hgrow (by have := hbl.size; simp; omega) (fun k hk => (hown.lt k hk).1)
     rw [← dg_snoc] at hown'
     clear hown hbl hgrow
     go_wp2
     go_roundw
     case rel => exact ⟨k + 1, 0, _, by omega, by go_num, rfl, by decide, by decide, hown', ST.out, hb1⟩
     case measure => simp [intOf]; omega
  ·have ST := Lib.hid hds.out
   clear hds
   go_wp2
   go_ret
   obtain ⟨g1, g2, g3⟩ := ST.out
   obtain ⟨ao2, b2, cap2, hv, hsl⟩ := own_sl hown g2 (by omega)
   have hkN : k = xs.length := by rw [← HN.out]; omega
   rw [List.take_of_length_le (by omega), List.take_of_length_le (by rw [← HM.out]; omega)] at g3
   have hbd := dval_bd g1
   rw [g2] at hbd
   have hge := G.out
   have hc : cv = 0 := by
    rcases (show cv = 0 ∨ cv = 1 by omega) with h | h
    ·exact h
    ·rw [h, Int.mul_one] at g3; omega
   rw [hc, Int.mul_zero, Int.sub_zero] at g3
   exact ⟨ao2, b2, cap2, ds, by rw [← hv]; rfl, hsl, g1, g3, by omega, hbl⟩
end Go.Proofs.Ytdlpfiiakmhnlaa

namespace Go.Proofs.Ytdlpfiiakmhnlaa
open Go.RowKit

theorem Big.shape {w : World} {v : Value} {n : Int} {L : Nat} (h : Big w v n L) : ∃ neg a l c, v = .agg #[.bool neg, .slice a l c] := by
  obtain ⟨neg, ao, b, cap, ds, h1, _⟩ := h
  exact ⟨neg, ao, ds.length, cap, h1⟩
theorem Sl.set2 {w : World} {ao : Option Addr} {b3 cap b : Nat} {ds : List Int} (h : Sl w ao b3 cap ds) {q : Bool} (hd : w.cell? ⟨b, 0, none⟩ = some (.bool q)) (x y : Value) :
    Sl ((w.setCell ⟨b, 0, none⟩ x).setCell ⟨b, 1, none⟩ y) ao b3 cap ds := by
  have hne : 0 < ds.length → b3 ≠ b := by
    intro h0 e
    have := h.cell 0 h0
    rw [e, hd] at this
    simp at this
  refine ⟨h.ptr, h.nil, h.capl, h.len, h.capb, fun i hi => ?_, fun h0 => ?_⟩
  · have hb := hne (by omega)
    have e : (((w.setCell ⟨b, 0, none⟩ x).setCell ⟨b, 1, none⟩ y).heap)[b3]? = w.heap[b3]? := by
      rw [Below.heap_setCell _ _ _ _ hb, Below.heap_setCell _ _ _ _ hb]
    rw [World.cell?_of_block (w := w) (a := ⟨b3, i, none⟩) e]
    exact h.cell i hi
  · rw [size_set, size_set]; exact h.blk h0
theorem Big.set2 {w : World} {v : Value} {n : Int} {L b : Nat} (h : Big w v n L) {q : Bool} (hd : w.cell? ⟨b, 0, none⟩ = some (.bool q)) (x y : Value) : Big ((w.setCell ⟨b, 0, none⟩ x).setCell ⟨b, 1, none⟩ y) v n L := by
  obtain ⟨neg, ao, b3, cap, ds, h1, h2, h3⟩ := h
  exact ⟨neg, ao, b3, cap, ds, h1, h2.set2 hd x y, h3⟩
theorem below_a1 (w : World) (o1 : Obj) : Below w.heap.size w (w.alloc o1) := (Below.refl _ _).alloc (Nat.le_refl _) _
theorem below_a2 (w : World) (o1 o2 : Obj) : Below w.heap.size w ((w.alloc o1).alloc o2) := (below_a1 w o1).alloc (by simp) _
theorem below_a3 (w : World) (o1 o2 o3 : Obj) : Below w.heap.size w (((w.alloc o1).alloc o2).alloc o3) := (below_a2 w o1 o2).alloc (by simp; omega) _
theorem set2_below {w W : World} {B b : Nat} (h : Below B W w) (hB : B ≤ b) (x y : Value) : Below B W ((w.setCell ⟨b, 0, none⟩ x).setCell ⟨b, 1, none⟩ y) := (h.setCell hB x).setCell hB y

set_option maxRecDepth 100000 in
set_option maxHeartbeats 600000 in
theorem bigAdd_same (neg : Bool) (ao bo : Option Addr) (b b' cap cap' : Nat) (xs ys : List Int) (w : World) (ha : Sl w ao b cap xs) (hb : Sl w bo b' cap' ys) (da : DigOk xs) (db : DigOk ys)
    (hl1 : xs.length < 268435456) (hl2 : ys.length < 268435456) :
    Calls Try.prog 56 #[.agg #[.bool neg, .slice ao xs.length cap], .agg #[.bool neg, .slice bo ys.length cap']] w
      (GivesBig w (bif neg then -(dval xs + dval ys) else dval xs + dval ys) (max xs.length ys.length + 1)) := by
 have HA := Lib.hid ha
 have HB := Lib.hid hb
 have D := Lib.hid (And.intro da db)
 have HL := Lib.hid (And.intro hl1 hl2)
 clear ha hb da db hl1 hl2
 go_enter Try.func56, Try.ntmps56
 go_wp2_with fail
 refine name_world ?_
 intro W hW
 have k0 : Blk W w.heap.size #[.bool neg, .slice ao xs.length cap] 109 := by rw [hW]; exact ((Blk.new _ _ _).alloc _).alloc _
 have k1 : Blk W (w.heap.size + 1) #[.bool neg, .slice bo ys.length cap'] 109 := by rw [hW]; exact (Blk.new1 _ _ _ _).alloc _
 have k2 : Blk W (w.heap.size + 1 + 1) #[.bool false, .slice none 0 0] 109 := by rw [hW]; exact Blk.new2 _ _ _ _ _
 have hb0 : Below w.heap.size w W := by rw [hW]; exact below_a3 _ _ _ _
 clear hW
 have c0 := k0.cell 0
 have c1 := k0.cell 1
 have d0 := k1.cell 0
 have d1 := k1.cell 1
 simp only [List.getElem?_toArray, List.getElem?_cons_zero, List.getElem?_cons_succ] at c0 c1 d0 d1
 have l0 := k0.lt
 have l1 := k1.lt
 have K2 := Lib.hid k2
 clear k0 k1 k2
 refine wp_region_up W.heap.size 7 [(true, 0), (true, 1), (true, 2), (true, 3), (true, 4), (true, 5), (false, 6)] (by kernel_rfl) (by kernel_rfl) (fun _ _ d _ _ h => by cases d <;> exact h) ?_
 have hb : Below W.heap.size W W.drew := (Below.refl _ _).drew
 iterate 6
  refine wpS_takeL rfl rfl ?_
  go_big_quiet_step (rfl)
  refine wpQuiet_nil ?_
 refine wpS_doL rfl ?_
 intro K hK
 go_wp2_with ((go_at_call 81; refine (more_any ao bo b b' cap cap' xs ys _ (HA.out.of (hb0.trans (hb.mono hb0.size))) (HB.out.of (hb0.trans (hb.mono hb0.size))) (by have := HL.out; omega) (by have := HL.out; omega) D.out.1 D.out.2).mono ?_; rintro e w2 ⟨ao2, b2, cap2, ds2, rfl, hsl2, hdg2, hv2, hl2, hn⟩; have SL := Lib.hid hsl2; have DG := Lib.hid hdg2; have HV := Lib.hid hv2; have HL2 := Lib.hid hl2; clear hsl2 hdg2 hv2 hl2))
 replace hb := hb.trans (hn.mono hb.size)
 refine hK.out _ _ (up_iff.2 hb) ?_
 clear hK K
 clear hn
 refine wpS_nil ?_
 simp only [List.drop_succ_cons, List.drop_zero]
 have hb1 : Below w.heap.size w w2 := hb0.trans (hb.mono hb0.size)
 have k2 : Blk w2 (w.heap.size + 1 + 1) #[.bool false, .slice none 0 0] 109 := K2.out.of hb
 clear c0 c1 d0 d1 l0 l1 K2 hb hb0
 go_wp2_with fail
 refine (trim_any neg ao2 b2 cap2 ds2 _ SL.out DG.out (max xs.length ys.length + 1) (by rw [HL2.out]; exact Nat.le_refl _)).mono ?_
 rintro e w3 ⟨v3, rfl, hbig, hn⟩
 rw [HV.out] at hbig
 have HBG := Lib.hid hbig
 have hvv := hbig.shape
 clear hbig
 obtain ⟨n3, a3, q3, c3, rfl⟩ := hvv
 replace k2 : Blk w3 _ _ _ := k2.of hn
 have d0 := k2.cell 0
 have d1 := k2.cell 1
 have f0 := k2.free 0
 have f1 := k2.free 1
 simp only [List.getElem?_toArray, List.getElem?_cons_zero, List.getElem?_cons_succ] at d0 d1
 have hb2 := hb1.trans (hn.mono hb1.size)
 clear hn k2 hb1
 go_wp2
 simp [bodyPost, results, Try.results56, go_sem, d0, d1]
 refine ⟨_, rfl, ?_, set2_below hb2 ?_ _ _⟩
 ·have := HBG.out.set2 d0 (.bool n3) (.slice a3 q3 c3)
  exact this
 ·omega
set_option maxRecDepth 100000 in
set_option maxHeartbeats 600000 in
theorem bigAdd_ge (neg : Bool) (ao bo : Option Addr) (b b' cap cap' : Nat) (xs ys : List Int) (w : World) (ha : Sl w ao b cap xs) (hb : Sl w bo b' cap' ys) (da : DigOk xs) (db : DigOk ys) (na : Norm xs) (nb : Norm ys) (hcmp : dval ys ≤ dval xs)
    (hl1 : xs.length < 268435456) (hl2 : ys.length < 268435456) :
    Calls Try.prog 56 #[.agg #[.bool neg, .slice ao xs.length cap], .agg #[.bool (!neg), .slice bo ys.length cap']] w
      (GivesBig w (bif neg then -(dval xs - dval ys) else dval xs - dval ys) xs.length) := by
 have HC := Lib.hid hcmp
 have NN := Lib.hid (And.intro na nb)
 have HA := Lib.hid ha
 have HB := Lib.hid hb
 have D := Lib.hid (And.intro da db)
 have HL := Lib.hid (And.intro hl1 hl2)
 have hle : ys.length ≤ xs.length := by
  rcases Nat.lt_or_ge xs.length ys.length with h | h
  ·have := len_lt da db nb h; omega
  ·exact h
 have HLE := Lib.hid hle
 clear hle
 clear ha hb da db hl1 hl2 hcmp na nb
 go_enter Try.func56, Try.ntmps56
 cases neg
 ·go_wp2_with fail
  refine calls_w ?_
  intro W hW
  have k0 : Blk W w.heap.size #[.bool false, .slice ao xs.length cap] 109 := by rw [hW]; exact ((Blk.new _ _ _).alloc _).alloc _
  have k1 : Blk W (w.heap.size + 1) #[.bool true, .slice bo ys.length cap'] 109 := by rw [hW]; exact (Blk.new1 _ _ _ _).alloc _
  have k2 : Blk W (w.heap.size + 1 + 1) #[.bool false, .slice none 0 0] 109 := by rw [hW]; exact Blk.new2 _ _ _ _ _
  have hb0 : Below w.heap.size w W := by rw [hW]; exact below_a3 _ _ _ _
  clear hW
  refine (sizes_any ao bo b b' cap cap' xs ys _ (HA.out.of hb0) (HB.out.of hb0) D.out.1 D.out.2 NN.out.1 NN.out.2).mono ?_
  rintro e w1 ⟨rfl, hn⟩
  replace k0 : Blk w1 _ _ _ := k0.of hn
  replace k1 : Blk w1 _ _ _ := k1.of hn
  replace k2 : Blk w1 _ _ _ := k2.of hn
  replace hb0 := hb0.trans (hn.mono hb0.size)
  clear hn
  have c0 := k0.cell 0
  have c1 := k0.cell 1
  have d0 := k1.cell 0
  have d1 := k1.cell 1
  simp only [List.getElem?_toArray, List.getElem?_cons_zero, List.getElem?_cons_succ] at c0 c1 d0 d1
  have l0 := k0.lt
  have l1 := k1.lt
  have K2 := Lib.hid k2
  clear k0 k1 k2
  have hsg : decide (0 ≤ cmpI (dval xs) (dval ys)) = true := by
   have := HC.out
   rcases Int.lt_or_eq_of_le this with h | h
   ·rw [cmpI_gt h]; rfl
   ·rw [h, cmpI_eq]; rfl
  go_wp2_with fail
  refine name_world ?_
  intro W hW
  subst hW
  refine wp_region_up W.heap.size 7 [(true, 0), (true, 1), (true, 2), (true, 3), (true, 4), (true, 5), (false, 6)] (by kernel_rfl) (by kernel_rfl) (fun _ _ d _ _ h => by cases d <;> exact h) ?_
  have hb : Below W.heap.size W W.drew := (Below.refl _ _).drew
  iterate 6
   refine wpS_takeL rfl rfl ?_
   go_big_quiet_step (rfl)
   refine wpQuiet_nil ?_
  refine wpS_doL rfl ?_
  intro K hK
  go_wp2_with ((go_at_call 83; refine (less_any ao bo b b' cap cap' xs ys _ (HA.out.of (hb0.trans (hb.mono hb0.size))) (HB.out.of (hb0.trans (hb.mono hb0.size))) (by have := HL.out; omega) D.out.1 D.out.2 HLE.out HC.out).mono ?_; rintro e w2 ⟨ao2, b2, cap2, ds2, rfl, hsl2, hdg2, hv2, hl2, hn⟩; have SL := Lib.hid hsl2; have DG := Lib.hid hdg2; have HV := Lib.hid hv2; have HL2 := Lib.hid hl2; clear hsl2 hdg2 hv2 hl2))
  replace hb := hb.trans (hn.mono hb.size)
  refine hK.out _ _ (up_iff.2 hb) ?_
  clear hK K
  clear hn
  refine wpS_nil ?_
  simp only [List.drop_succ_cons, List.drop_zero]
  have hb1 : Below w.heap.size w w2 := hb0.trans (hb.mono hb0.size)
  have k2 : Blk w2 (w.heap.size + 1 + 1) #[.bool false, .slice none 0 0] 109 := K2.out.of hb
  clear c0 c1 d0 d1 l0 l1 K2 hb hb0
  go_wp2_with fail
  refine (trim_any _ ao2 b2 cap2 ds2 _ SL.out DG.out xs.length (by rw [HL2.out]; exact Nat.le_refl _)).mono ?_
  rintro e w3 ⟨v3, rfl, hbig, hn⟩
  rw [HV.out] at hbig
  have HBG := Lib.hid hbig
  have hvv := hbig.shape
  clear hbig
  obtain ⟨n3, a3, q3, c3, rfl⟩ := hvv
  replace k2 : Blk w3 _ _ _ := k2.of hn
  have d0 := k2.cell 0
  have d1 := k2.cell 1
  have f0 := k2.free 0
  have f1 := k2.free 1
  simp only [List.getElem?_toArray, List.getElem?_cons_zero, List.getElem?_cons_succ] at d0 d1
  have hb2 := hb1.trans (hn.mono hb1.size)
  clear hn k2 hb1
  go_wp2
  simp [bodyPost, results, Try.results56, go_sem, d0, d1]
  refine ⟨_, rfl, ?_, set2_below hb2 ?_ _ _⟩
  ·have := HBG.out.set2 d0 (.bool n3) (.slice a3 q3 c3)
   exact this
  ·omega
 ·go_wp2_with fail
  refine calls_w ?_
  intro W hW
  have k0 : Blk W w.heap.size #[.bool true, .slice ao xs.length cap] 109 := by rw [hW]; exact ((Blk.new _ _ _).alloc _).alloc _
  have k1 : Blk W (w.heap.size + 1) #[.bool false, .slice bo ys.length cap'] 109 := by rw [hW]; exact (Blk.new1 _ _ _ _).alloc _
  have k2 : Blk W (w.heap.size + 1 + 1) #[.bool false, .slice none 0 0] 109 := by rw [hW]; exact Blk.new2 _ _ _ _ _
  have hb0 : Below w.heap.size w W := by rw [hW]; exact below_a3 _ _ _ _
  clear hW
  refine (sizes_any ao bo b b' cap cap' xs ys _ (HA.out.of hb0) (HB.out.of hb0) D.out.1 D.out.2 NN.out.1 NN.out.2).mono ?_
  rintro e w1 ⟨rfl, hn⟩
  replace k0 : Blk w1 _ _ _ := k0.of hn
  replace k1 : Blk w1 _ _ _ := k1.of hn
  replace k2 : Blk w1 _ _ _ := k2.of hn
  replace hb0 := hb0.trans (hn.mono hb0.size)
  clear hn
  have c0 := k0.cell 0
  have c1 := k0.cell 1
  have d0 := k1.cell 0
  have d1 := k1.cell 1
  simp only [List.getElem?_toArray, List.getElem?_cons_zero, List.getElem?_cons_succ] at c0 c1 d0 d1
  have l0 := k0.lt
  have l1 := k1.lt
  have K2 := Lib.hid k2
  clear k0 k1 k2
  have hsg : decide (0 ≤ cmpI (dval xs) (dval ys)) = true := by
   have := HC.out
   rcases Int.lt_or_eq_of_le this with h | h
   ·rw [cmpI_gt h]; rfl
   ·rw [h, cmpI_eq]; rfl
  go_wp2_with fail
  refine name_world ?_
  intro W hW
  subst hW
  refine wp_region_up W.heap.size 7 [(true, 0), (true, 1), (true, 2), (true, 3), (true, 4), (true, 5), (false, 6)] (by kernel_rfl) (by kernel_rfl) (fun _ _ d _ _ h => by cases d <;> exact h) ?_
  have hb : Below W.heap.size W W.drew := (Below.refl _ _).drew
  iterate 6
   refine wpS_takeL rfl rfl ?_
   go_big_quiet_step (rfl)
   refine wpQuiet_nil ?_
  refine wpS_doL rfl ?_
  intro K hK
  go_wp2_with ((go_at_call 83; refine (less_any ao bo b b' cap cap' xs ys _ (HA.out.of (hb0.trans (hb.mono hb0.size))) (HB.out.of (hb0.trans (hb.mono hb0.size))) (by have := HL.out; omega) D.out.1 D.out.2 HLE.out HC.out).mono ?_; rintro e w2 ⟨ao2, b2, cap2, ds2, rfl, hsl2, hdg2, hv2, hl2, hn⟩; have SL := Lib.hid hsl2; have DG := Lib.hid hdg2; have HV := Lib.hid hv2; have HL2 := Lib.hid hl2; clear hsl2 hdg2 hv2 hl2))
  replace hb := hb.trans (hn.mono hb.size)
  refine hK.out _ _ (up_iff.2 hb) ?_
  clear hK K
  clear hn
  refine wpS_nil ?_
  simp only [List.drop_succ_cons, List.drop_zero]
  have hb1 : Below w.heap.size w w2 := hb0.trans (hb.mono hb0.size)
  have k2 : Blk w2 (w.heap.size + 1 + 1) #[.bool false, .slice none 0 0] 109 := K2.out.of hb
  clear c0 c1 d0 d1 l0 l1 K2 hb hb0
  go_wp2_with fail
  refine (trim_any _ ao2 b2 cap2 ds2 _ SL.out DG.out xs.length (by rw [HL2.out]; exact Nat.le_refl _)).mono ?_
  rintro e w3 ⟨v3, rfl, hbig, hn⟩
  rw [HV.out] at hbig
  have HBG := Lib.hid hbig
  have hvv := hbig.shape
  clear hbig
  obtain ⟨n3, a3, q3, c3, rfl⟩ := hvv
  replace k2 : Blk w3 _ _ _ := k2.of hn
  have d0 := k2.cell 0
  have d1 := k2.cell 1
  have f0 := k2.free 0
  have f1 := k2.free 1
  simp only [List.getElem?_toArray, List.getElem?_cons_zero, List.getElem?_cons_succ] at d0 d1
  have hb2 := hb1.trans (hn.mono hb1.size)
  clear hn k2 hb1
  go_wp2
  simp [bodyPost, results, Try.results56, go_sem, d0, d1]
  refine ⟨_, rfl, ?_, set2_below hb2 ?_ _ _⟩
  ·have := HBG.out.set2 d0 (.bool n3) (.slice a3 q3 c3)
   exact this
  ·omega
set_option maxRecDepth 100000 in
set_option maxHeartbeats 600000 in
theorem bigAdd_lt (neg : Bool) (ao bo : Option Addr) (b b' cap cap' : Nat) (xs ys : List Int) (w : World) (ha : Sl w ao b cap xs) (hb : Sl w bo b' cap' ys) (da : DigOk xs) (db : DigOk ys) (na : Norm xs) (nb : Norm ys) (hcmp : dval xs < dval ys)
    (hl1 : xs.length < 268435456) (hl2 : ys.length < 268435456) :
    Calls Try.prog 56 #[.agg #[.bool neg, .slice ao xs.length cap], .agg #[.bool (!neg), .slice bo ys.length cap']] w
      (GivesBig w (bif !neg then -(dval ys - dval xs) else dval ys - dval xs) ys.length) := by
 have HC := Lib.hid hcmp
 have NN := Lib.hid (And.intro na nb)
 have HA := Lib.hid ha
 have HB := Lib.hid hb
 have D := Lib.hid (And.intro da db)
 have HL := Lib.hid (And.intro hl1 hl2)
 have hle : xs.length ≤ ys.length := by
  rcases Nat.lt_or_ge ys.length xs.length with h | h
  ·have := len_lt db da na h; omega
  ·exact h
 have HLE := Lib.hid hle
 clear hle
 clear ha hb da db hl1 hl2 hcmp na nb
 go_enter Try.func56, Try.ntmps56
 cases neg
 ·go_wp2_with fail
  refine calls_w ?_
  intro W hW
  have k0 : Blk W w.heap.size #[.bool false, .slice ao xs.length cap] 109 := by rw [hW]; exact ((Blk.new _ _ _).alloc _).alloc _
  have k1 : Blk W (w.heap.size + 1) #[.bool true, .slice bo ys.length cap'] 109 := by rw [hW]; exact (Blk.new1 _ _ _ _).alloc _
  have k2 : Blk W (w.heap.size + 1 + 1) #[.bool false, .slice none 0 0] 109 := by rw [hW]; exact Blk.new2 _ _ _ _ _
  have hb0 : Below w.heap.size w W := by rw [hW]; exact below_a3 _ _ _ _
  clear hW
  refine (sizes_any ao bo b b' cap cap' xs ys _ (HA.out.of hb0) (HB.out.of hb0) D.out.1 D.out.2 NN.out.1 NN.out.2).mono ?_
  rintro e w1 ⟨rfl, hn⟩
  replace k0 : Blk w1 _ _ _ := k0.of hn
  replace k1 : Blk w1 _ _ _ := k1.of hn
  replace k2 : Blk w1 _ _ _ := k2.of hn
  replace hb0 := hb0.trans (hn.mono hb0.size)
  clear hn
  have c0 := k0.cell 0
  have c1 := k0.cell 1
  have d0 := k1.cell 0
  have d1 := k1.cell 1
  simp only [List.getElem?_toArray, List.getElem?_cons_zero, List.getElem?_cons_succ] at c0 c1 d0 d1
  have l0 := k0.lt
  have l1 := k1.lt
  have K2 := Lib.hid k2
  clear k0 k1 k2
  have hsg : decide (0 ≤ cmpI (dval xs) (dval ys)) = false := by
   have := HC.out
   rw [cmpI_lt this]; rfl
  go_wp2_with fail
  refine name_world ?_
  intro W hW
  subst hW
  refine wp_region_up W.heap.size 7 [(true, 0), (true, 1), (true, 2), (true, 3), (true, 4), (true, 5), (false, 6)] (by kernel_rfl) (by kernel_rfl) (fun _ _ d _ _ h => by cases d <;> exact h) ?_
  have hb : Below W.heap.size W W.drew := (Below.refl _ _).drew
  iterate 6
   refine wpS_takeL rfl rfl ?_
   go_big_quiet_step (rfl)
   refine wpQuiet_nil ?_
  refine wpS_doL rfl ?_
  intro K hK
  go_wp2_with ((go_at_call 83; refine (less_any bo ao b' b cap' cap ys xs _ (HB.out.of (hb0.trans (hb.mono hb0.size))) (HA.out.of (hb0.trans (hb.mono hb0.size))) (by have := HL.out; omega) D.out.2 D.out.1 HLE.out (Int.le_of_lt HC.out)).mono ?_; rintro e w2 ⟨ao2, b2, cap2, ds2, rfl, hsl2, hdg2, hv2, hl2, hn⟩; have SL := Lib.hid hsl2; have DG := Lib.hid hdg2; have HV := Lib.hid hv2; have HL2 := Lib.hid hl2; clear hsl2 hdg2 hv2 hl2))
  replace hb := hb.trans (hn.mono hb.size)
  refine hK.out _ _ (up_iff.2 hb) ?_
  clear hK K
  clear hn
  refine wpS_nil ?_
  simp only [List.drop_succ_cons, List.drop_zero]
  have hb1 : Below w.heap.size w w2 := hb0.trans (hb.mono hb0.size)
  have k2 : Blk w2 (w.heap.size + 1 + 1) #[.bool false, .slice none 0 0] 109 := K2.out.of hb
  clear c0 c1 d0 d1 l0 l1 K2 hb hb0
  go_wp2_with fail
  refine (trim_any _ ao2 b2 cap2 ds2 _ SL.out DG.out ys.length (by rw [HL2.out]; exact Nat.le_refl _)).mono ?_
  rintro e w3 ⟨v3, rfl, hbig, hn⟩
  rw [HV.out] at hbig
  have HBG := Lib.hid hbig
  have hvv := hbig.shape
  clear hbig
  obtain ⟨n3, a3, q3, c3, rfl⟩ := hvv
  replace k2 : Blk w3 _ _ _ := k2.of hn
  have d0 := k2.cell 0
  have d1 := k2.cell 1
  have f0 := k2.free 0
  have f1 := k2.free 1
  simp only [List.getElem?_toArray, List.getElem?_cons_zero, List.getElem?_cons_succ] at d0 d1
  have hb2 := hb1.trans (hn.mono hb1.size)
  clear hn k2 hb1
  go_wp2
  simp [bodyPost, results, Try.results56, go_sem, d0, d1]
  refine ⟨_, rfl, ?_, set2_below hb2 ?_ _ _⟩
  ·have := HBG.out.set2 d0 (.bool n3) (.slice a3 q3 c3)
   exact this
  ·omega
 ·go_wp2_with fail
  refine calls_w ?_
  intro W hW
  have k0 : Blk W w.heap.size #[.bool true, .slice ao xs.length cap] 109 := by rw [hW]; exact ((Blk.new _ _ _).alloc _).alloc _
  have k1 : Blk W (w.heap.size + 1) #[.bool false, .slice bo ys.length cap'] 109 := by rw [hW]; exact (Blk.new1 _ _ _ _).alloc _
  have k2 : Blk W (w.heap.size + 1 + 1) #[.bool false, .slice none 0 0] 109 := by rw [hW]; exact Blk.new2 _ _ _ _ _
  have hb0 : Below w.heap.size w W := by rw [hW]; exact below_a3 _ _ _ _
  clear hW
  refine (sizes_any ao bo b b' cap cap' xs ys _ (HA.out.of hb0) (HB.out.of hb0) D.out.1 D.out.2 NN.out.1 NN.out.2).mono ?_
  rintro e w1 ⟨rfl, hn⟩
  replace k0 : Blk w1 _ _ _ := k0.of hn
  replace k1 : Blk w1 _ _ _ := k1.of hn
  replace k2 : Blk w1 _ _ _ := k2.of hn
  replace hb0 := hb0.trans (hn.mono hb0.size)
  clear hn
  have c0 := k0.cell 0
  have c1 := k0.cell 1
  have d0 := k1.cell 0
  have d1 := k1.cell 1
  simp only [List.getElem?_toArray, List.getElem?_cons_zero, List.getElem?_cons_succ] at c0 c1 d0 d1
  have l0 := k0.lt
  have l1 := k1.lt
  have K2 := Lib.hid k2
  clear k0 k1 k2
  have hsg : decide (0 ≤ cmpI (dval xs) (dval ys)) = false := by
   have := HC.out
   rw [cmpI_lt this]; rfl
  go_wp2_with fail
  refine name_world ?_
  intro W hW
  subst hW
  refine wp_region_up W.heap.size 7 [(true, 0), (true, 1), (true, 2), (true, 3), (true, 4), (true, 5), (false, 6)] (by kernel_rfl) (by kernel_rfl) (fun _ _ d _ _ h => by cases d <;> exact h) ?_
  have hb : Below W.heap.size W W.drew := (Below.refl _ _).drew
  iterate 6
   refine wpS_takeL rfl rfl ?_
   go_big_quiet_step (rfl)
   refine wpQuiet_nil ?_
  refine wpS_doL rfl ?_
  intro K hK
  go_wp2_with ((go_at_call 83; refine (less_any bo ao b' b cap' cap ys xs _ (HB.out.of (hb0.trans (hb.mono hb0.size))) (HA.out.of (hb0.trans (hb.mono hb0.size))) (by have := HL.out; omega) D.out.2 D.out.1 HLE.out (Int.le_of_lt HC.out)).mono ?_; rintro e w2 ⟨ao2, b2, cap2, ds2, rfl, hsl2, hdg2, hv2, hl2, hn⟩; have SL := Lib.hid hsl2; have DG := Lib.hid hdg2; have HV := Lib.hid hv2; have HL2 := Lib.hid hl2; clear hsl2 hdg2 hv2 hl2))
  replace hb := hb.trans (hn.mono hb.size)
  refine hK.out _ _ (up_iff.2 hb) ?_
  clear hK K
  clear hn
  refine wpS_nil ?_
  simp only [List.drop_succ_cons, List.drop_zero]
  have hb1 : Below w.heap.size w w2 := hb0.trans (hb.mono hb0.size)
  have k2 : Blk w2 (w.heap.size + 1 + 1) #[.bool false, .slice none 0 0] 109 := K2.out.of hb
  clear c0 c1 d0 d1 l0 l1 K2 hb hb0
  go_wp2_with fail
  refine (trim_any _ ao2 b2 cap2 ds2 _ SL.out DG.out ys.length (by rw [HL2.out]; exact Nat.le_refl _)).mono ?_
  rintro e w3 ⟨v3, rfl, hbig, hn⟩
  rw [HV.out] at hbig
  have HBG := Lib.hid hbig
  have hvv := hbig.shape
  clear hbig
  obtain ⟨n3, a3, q3, c3, rfl⟩ := hvv
  replace k2 : Blk w3 _ _ _ := k2.of hn
  have d0 := k2.cell 0
  have d1 := k2.cell 1
  have f0 := k2.free 0
  have f1 := k2.free 1
  simp only [List.getElem?_toArray, List.getElem?_cons_zero, List.getElem?_cons_succ] at d0 d1
  have hb2 := hb1.trans (hn.mono hb1.size)
  clear hn k2 hb1
  go_wp2
  simp [bodyPost, results, Try.results56, go_sem, d0, d1]
  refine ⟨_, rfl, ?_, set2_below hb2 ?_ _ _⟩
  ·have := HBG.out.set2 d0 (.bool n3) (.slice a3 q3 c3)
   exact this
  ·omega
end Go.Proofs.Ytdlpfiiakmhnlaa
namespace Go.Proofs.Ytdlpfiiakmhnlaa
open Go.RowKit
theorem GivesBig.mono {w : World} {n : Int} {L L' : Nat} (hl : L ≤ L') {e : Ending} {w' : World} (h : GivesBig w n L e w') : GivesBig w n L' e w' := by
  obtain ⟨v, h1, h2, h3⟩ := h
  exact ⟨v, h1, h2.mono hl, h3⟩
theorem bigAdd_any (v v' : Value) (n m : Int) (L : Nat) (w : World) (h : Big w v n L) (h' : Big w v' m L) (hL : L < 268435456) :
    Calls Try.prog 56 #[v, v'] w (GivesBig w (n + m) (L + 1)) := by
  obtain ⟨neg, ao, b, cap, ds, rfl, hs, hd, hn, hz, hv, hl⟩ := h
  obtain ⟨neg', ao', b', cap', ds', rfl, hs', hd', hn', hz', hv', hl'⟩ := h'
  by_cases hq : neg' = neg
  · subst hq
    refine (bigAdd_same neg' ao ao' b b' cap cap' ds ds' w hs hs' hd hd' (by omega) (by omega)).mono ?_
    intro e w2 hg
    have hx : n + m = (bif neg' then -(dval ds + dval ds') else dval ds + dval ds') := by
      rw [hv, hv']; cases neg' <;> simp <;> omega
    rw [hx]
    exact hg.mono (by omega)
  · have hq' : neg' = !neg := by cases neg <;> cases neg' <;> simp_all
    subst hq'
    by_cases hc : dval ds' ≤ dval ds
    · refine (bigAdd_ge neg ao ao' b b' cap cap' ds ds' w hs hs' hd hd' hn hn' hc (by omega) (by omega)).mono ?_
      intro e w2 hg
      have hx : n + m = (bif neg then -(dval ds - dval ds') else dval ds - dval ds') := by
        rw [hv, hv']; cases neg <;> simp <;> omega
      rw [hx]
      exact hg.mono (by omega)
    · refine (bigAdd_lt neg ao ao' b b' cap cap' ds ds' w hs hs' hd hd' hn hn' (by omega) (by omega) (by omega)).mono ?_
      intro e w2 hg
      have hx : n + m = (bif !neg then -(dval ds' - dval ds) else dval ds' - dval ds) := by
        rw [hv, hv']; cases neg <;> simp <;> omega
      rw [hx]
      exact hg.mono (by omega)
end Go.Proofs.Ytdlpfiiakmhnlaa
namespace Go.Proofs.Ytdlpfiiakmhnlaa
open Go.RowKit
set_option maxRecDepth 100000 in
set_option maxHeartbeats 600000 in
theorem bigSub_any (v v' : Value) (n m : Int) (L : Nat) (w : World) (h : Big w v n L) (h' : Big w v' m L) (hL : L < 268435456) :
    Calls Try.prog 86 #[v, v'] w (GivesBig w (n - m) (L + 1)) := by
 have hv := h.shape
 have hv' := h'.shape
 obtain ⟨n1, a1, q1, e1, rfl⟩ := hv
 obtain ⟨n2, a2, q2, e2, rfl⟩ := hv'
 have HA := Lib.hid h
 have HB := Lib.hid h'
 have HL := Lib.hid hL
 clear h h' hL
 go_enter Try.func86, Try.ntmps86
 go_wp2_with fail
 refine name_world ?_
 intro W hW
 have k0 : Blk W w.heap.size #[.bool n1, .slice a1 q1 e1] 109 := by rw [hW]; exact ((Blk.new _ _ _).alloc _).alloc _
 have k1 : Blk W (w.heap.size + 1) #[.bool n2, .slice a2 q2 e2] 109 := by rw [hW]; exact (Blk.new1 _ _ _ _).alloc _
 have k2 : Blk W (w.heap.size + 1 + 1) #[.bool false, .slice none 0 0] 109 := by rw [hW]; exact Blk.new2 _ _ _ _ _
 have hb0 : Below w.heap.size w W := by rw [hW]; exact below_a3 _ _ _ _
 clear hW
 have c0 := k0.cell 0
 have c1 := k0.cell 1
 have d0 := k1.cell 0
 have d1 := k1.cell 1
 simp only [List.getElem?_toArray, List.getElem?_cons_zero, List.getElem?_cons_succ] at c0 c1 d0 d1
 have l0 := k0.lt
 have l1 := k1.lt
 have K2 := Lib.hid k2
 clear k0 k1 k2
 refine wp_region_up W.heap.size 3 [(true, 0), (true, 1), (false, 2)] (by kernel_rfl) (by kernel_rfl) (fun _ _ d _ _ h => by cases d <;> exact h) ?_
 have hb : Below W.heap.size W W.drew := (Below.refl _ _).drew
 iterate 2
  refine wpS_takeL rfl rfl ?_
  go_big_quiet_step (rfl)
  refine wpQuiet_nil ?_
 refine wpS_doL rfl ?_
 intro K hK
 go_wp2_with ((go_at_call 96; refine (Minus_any _ m L _ (HB.out.of (hb0.trans (hb.mono hb0.size)))).mono ?_; rintro e w2 ⟨vm, rfl, hbm, hn⟩; have HM := Lib.hid hbm; have hvm := hbm.shape; clear hbm; obtain ⟨n3, a3, q3, e3, rfl⟩ := hvm))
 replace hb := hb.trans (hn.mono hb.size)
 refine hK.out _ _ (up_iff.2 hb) ?_
 clear hK K
 clear hn
 refine wpS_nil ?_
 simp only [List.drop_succ_cons, List.drop_zero]
 have hb1 : Below w.heap.size w w2 := hb0.trans (hb.mono hb0.size)
 have k2 : Blk w2 (w.heap.size + 1 + 1) #[.bool false, .slice none 0 0] 109 := K2.out.of hb
 clear c0 c1 d0 d1 l0 l1 K2 hb hb0
 go_wp2_with ((go_at_call 56; refine (bigAdd_any _ _ n (-m) L _ (HA.out.of hb1) HM.out HL.out).mono ?_; rintro e w3 ⟨v3, rfl, hbig, hn⟩; have HBG := Lib.hid hbig; have hvv := hbig.shape; clear hbig; obtain ⟨n4, a4, q4, e4, rfl⟩ := hvv; replace k2 : Blk w3 _ _ _ := k2.of hn; have d0 := k2.cell 0; have d1 := k2.cell 1; have f0 := k2.free 0; have f1 := k2.free 1; simp only [List.getElem?_toArray, List.getElem?_cons_zero, List.getElem?_cons_succ] at d0 d1; have hb2 := hb1.trans (hn.mono hb1.size); clear hn k2 hb1))
 simp [bodyPost, results, Try.results86, go_sem, d0, d1]
 refine ⟨_, rfl, ?_, set2_below hb2 ?_ _ _⟩
 ·have := HBG.out.set2 d0 (.bool n4) (.slice a4 q4 e4)
  rw [show n + -m = n - m from by omega] at this
  exact this
 ·omega
end Go.Proofs.Ytdlpfiiakmhnlaa
namespace Go.Proofs.Ytdlpfiiakmhnlaa

/-- the number of some words -/
def uval : List Int → Int
  | [] => 0
  | d :: t => d + 18446744073709551616 * uval t
def WordsOk (ws : List Int) : Prop := ∀ d ∈ ws, Wd d
theorem uval_bd {ws : List Int} (h : WordsOk ws) : 0 ≤ uval ws ∧ uval ws < 2 ^ (64 * ws.length) := by
  induction ws with
  | nil => simp [uval]
  | cons d t ih =>
    have h1 := ih fun x hx => h x (List.mem_cons_of_mem _ hx)
    obtain ⟨h2, h3⟩ := h d (List.mem_cons_self ..)
    have e : (2 : Int) ^ (64 * (d :: t).length) = 18446744073709551616 * 2 ^ (64 * t.length) := by
      rw [List.length_cons, Nat.mul_add, Int.pow_add, Int.mul_comm]; rfl
    rw [e, uval]; omega
theorem p2_pos (n : Nat) : (0 : Int) < 2 ^ n := Int.pow_pos (by decide)
theorem uval_bit {ws : List Int} (h : WordsOk ws) (i : Nat) : ws.getD (i / 64) 0 / 2 ^ (i % 64) % 2 = uval ws / 2 ^ i % 2 := by
  induction ws generalizing i with
  | nil => simp [uval]
  | cons d t ih =>
    obtain ⟨h2, h3⟩ := h d (List.mem_cons_self ..)
    rcases Nat.lt_or_ge i 64 with hi | hi
    · have e1 : i / 64 = 0 := by omega
      have e2 : i % 64 = i := by omega
      rw [e1, e2, uval]
      have e3 : (18446744073709551616 : Int) * uval t = 2 ^ i * (2 * (2 ^ (63 - i) * uval t)) := by
        have : (18446744073709551616 : Int) = 2 ^ i * 2 ^ 1 * 2 ^ (63 - i) := by
          rw [← Int.pow_add, ← Int.pow_add, show i + 1 + (63 - i) = 64 by omega]; rfl
        rw [this]; simp only [Int.mul_assoc, Int.pow_succ, Int.pow_zero, Int.one_mul]
      rw [e3, Int.add_mul_ediv_left _ _ (Int.ne_of_gt (p2_pos i)), Int.add_mul_emod_self_left]
      rfl
    · obtain ⟨k, rfl⟩ : ∃ k, i = 64 + k := ⟨i - 64, by omega⟩
      have e1 : (64 + k) / 64 = k / 64 + 1 := by omega
      have e2 : (64 + k) % 64 = k % 64 := by omega
      rw [e1, e2, uval]
      have e3 : (d + 18446744073709551616 * uval t) / 2 ^ (64 + k) = uval t / 2 ^ k := by
        rw [← ediv_pow]
        have e4 : (d + 18446744073709551616 * uval t) / 2 ^ 64 = uval t := by
          have : (2 : Int) ^ 64 = 18446744073709551616 := rfl
          rw [this]; omega
        rw [e4]
      rw [e3]
      exact ih (fun x hx => h x (List.mem_cons_of_mem _ hx)) k

theorem P15_two (n : Nat) : P15 n = 2 ^ (15 * n) := by
  induction n with
  | zero => rfl
  | succ n ih => rw [P15_succ, ih, Nat.mul_add, Int.pow_add, Int.mul_comm]; rfl
theorem mod_succ (x : Int) (i : Nat) : x % 2 ^ (i + 1) = x % 2 ^ i + x / 2 ^ i % 2 * 2 ^ i := by
  have h1 := Int.emod_add_mul_ediv x (2 ^ i)
  have h2 := Int.emod_add_mul_ediv (x / 2 ^ i) 2
  have p := p2_pos i
  have r0 := Int.emod_nonneg x (Int.ne_of_gt p)
  have r1 := Int.emod_lt_of_pos x p
  have t0 : 0 ≤ x / 2 ^ i % 2 := Int.emod_nonneg _ (by decide)
  have t1 : x / 2 ^ i % 2 < 2 := Int.emod_lt_of_pos _ (by decide)
  have e : (2 : Int) ^ (i + 1) = 2 ^ i * 2 := Int.pow_succ ..
  have b0 : 0 ≤ x / 2 ^ i % 2 * 2 ^ i := Int.mul_nonneg t0 (Int.le_of_lt p)
  have b1 : x / 2 ^ i % 2 * 2 ^ i ≤ 1 * 2 ^ i := Int.mul_le_mul_of_nonneg_right (by omega) (Int.le_of_lt p)
  refine (div_unique (q := x / 2 ^ i / 2) ?_ (by omega) (by omega)).2
  have e5 : (2 : Int) ^ (i + 1) * (x / 2 ^ i / 2) = 2 ^ i * (2 * (x / 2 ^ i / 2)) := by rw [e, Int.mul_assoc]
  have e6 : 2 ^ i * (x / 2 ^ i) = 2 ^ i * (x / 2 ^ i % 2) + 2 ^ i * (2 * (x / 2 ^ i / 2)) := by rw [← Int.mul_add, h2]
  have e7 : x / 2 ^ i % 2 * 2 ^ i = 2 ^ i * (x / 2 ^ i % 2) := Int.mul_comm ..
  omega

/-- the first i bits of N, as digits and what is gathered for the next one -/
structure Gat (N : Int) (i m : Nat) (ds : List Int) (r : Int) : Prop where
  ok : DigOk ds
  pos : i = 15 * ds.length + m
  sum : dval ds + P15 ds.length * r = N % 2 ^ i
  lo : 0 ≤ r
  hi : r < 2 ^ m
theorem Gat.zero (N : Int) : Gat N 0 0 [] 0 := ⟨DigOk.nil, rfl, by simp [dval], by decide, by decide⟩
theorem Gat.bit {N : Int} {i m : Nat} {ds : List Int} {r b : Int} (h : Gat N i m ds r) (hb : b = N / 2 ^ i % 2) :
    dval ds + P15 ds.length * (r + b * 2 ^ m) = N % 2 ^ (i + 1) ∧ 0 ≤ r + b * 2 ^ m ∧ r + b * 2 ^ m < 2 ^ (m + 1) := by
  have p := p2_pos m
  have t0 : 0 ≤ b := hb ▸ Int.emod_nonneg _ (by decide)
  have t1 : b < 2 := hb ▸ Int.emod_lt_of_pos _ (by decide)
  have b0 : 0 ≤ b * 2 ^ m := Int.mul_nonneg t0 (Int.le_of_lt p)
  have b1 : b * 2 ^ m ≤ 1 * 2 ^ m := Int.mul_le_mul_of_nonneg_right (by omega) (Int.le_of_lt p)
  have e : (2 : Int) ^ (m + 1) = 2 ^ m * 2 := Int.pow_succ ..
  have := h.lo; have := h.hi
  refine ⟨?_, by omega, by omega⟩
  rw [mod_succ, ← hb, ← h.sum, Int.mul_add]
  have e2 : (2 : Int) ^ i = P15 ds.length * 2 ^ m := by rw [P15_two, ← Int.pow_add, ← h.pos]
  rw [e2]
  have e3 : b * (P15 ds.length * 2 ^ m) = P15 ds.length * (b * 2 ^ m) := Int.mul_left_comm ..
  omega
theorem Gat.on {N : Int} {i m : Nat} {ds : List Int} {r b : Int} (h : Gat N i m ds r) (hb : b = N / 2 ^ i % 2) : Gat N (i + 1) (m + 1) ds (r + b * 2 ^ m) := by
  obtain ⟨h1, h2, h3⟩ := h.bit hb
  exact ⟨h.ok, by have := h.pos; omega, h1, h2, h3⟩
theorem Gat.next {N : Int} {i : Nat} {ds : List Int} {r b : Int} (h : Gat N i 14 ds r) (hb : b = N / 2 ^ i % 2) : Gat N (i + 1) 0 (ds ++ [r + b * 2 ^ 14]) 0 := by
  obtain ⟨h1, h2, h3⟩ := h.bit hb
  have h3' : r + b * 2 ^ 14 < 32768 := h3
  refine ⟨h.ok.append (DigOk.one ⟨h2, h3'⟩), ?_, ?_, by decide, by decide⟩
  · have := h.pos; rw [List.length_append, List.length_singleton]; omega
  · rw [Int.mul_zero, Int.add_zero, dval_append, ← h1]; simp [dval]
theorem Gat.done {N : Int} {i m : Nat} {ds : List Int} {r : Int} (h : Gat N i m ds r) (hm : m ≤ 14) (h0 : 0 ≤ N) (h1 : N < 2 ^ i) : DigOk (ds ++ [r]) ∧ dval (ds ++ [r]) = N := by
  have e : (2 : Int) ^ m ≤ 2 ^ 14 := by
    have := p2_pos (14 - m); have p := p2_pos m
    have e : (2 : Int) ^ 14 = 2 ^ m * 2 ^ (14 - m) := by rw [← Int.pow_add, show m + (14 - m) = 14 by omega]
    have : (2 : Int) ^ m * 1 ≤ 2 ^ m * 2 ^ (14 - m) := Int.mul_le_mul_of_nonneg_left (by omega) (by omega)
    omega
  have e14 : (2 : Int) ^ 14 = 16384 := rfl
  have := h.lo; have := h.hi
  refine ⟨h.ok.append (DigOk.one ⟨by omega, by omega⟩), ?_⟩
  have := h.sum
  rw [Int.emod_eq_of_lt h0 h1] at this
  rw [dval_append, ← this]; simp [dval]

theorem dval_set {ds : List Int} {j : Nat} (hj : j < ds.length) (v : Int) : dval (ds.set j v) = dval ds + P15 j * (v - ds.getD j 0) := by
  induction ds generalizing j with
  | nil => cases hj
  | cons d t ih =>
    cases j with
    | zero => simp [dval, P15_0]; omega
    | succ j =>
      have hj' : j < t.length := by simpa using hj
      rw [List.set_cons_succ, dval, dval, ih hj', P15_succ, List.getD_cons_succ, Int.mul_add, Int.mul_assoc]; omega
theorem DigOk.set {ds : List Int} (h : DigOk ds) {v : Int} (hv : 0 ≤ v ∧ v < 32768) (j : Nat) : DigOk (ds.set j v) := fun x hx => by
  rcases List.mem_or_eq_of_mem_set hx with h' | h'
  · exact h x h'
  · rw [h']; exact hv
theorem getD_set_ne {ds : List Int} {i j : Nat} (h : i ≠ j) (v : Int) : (ds.set i v).getD j 0 = ds.getD j 0 := by
  simp [List.getD, List.getElem?_set_ne h]
theorem dval_take_succ' (ds : List Int) (k : Nat) : dval (ds.take (k + 1)) = dval (ds.take k) + P15 k * ds.getD k 0 := by
  rcases Nat.lt_or_ge k ds.length with h | h
  · rw [List.take_succ_eq_append_getElem h, dval_append, List.length_take, Nat.min_eq_left (by omega), getD_in' h]
    simp [dval]
  · rw [List.take_of_length_le (by omega), List.take_of_length_le h, getD_out h]; simp

/-- the product so far: all of the first i digits, and of the next one as many as k of the other number's -/
structure Prd (xs ys : List Int) (n i k : Nat) (out : List Int) (c : Int) : Prop where
  ok : DigOk out
  len : out.length = n
  sum : dval out + P15 (i + k) * c = dval (xs.take i) * dval ys + P15 i * (xs.getD i 0 * dval (ys.take k))
  far : ∀ j, i + ys.length ≤ j → out.getD j 0 = 0
  lo : 0 ≤ c
  hi : c ≤ 32767
theorem Prd.start {xs ys : List Int} {n i : Nat} {out : List Int} (h1 : DigOk out) (h2 : out.length = n) (h3 : dval out = dval (xs.take i) * dval ys) (h4 : ∀ j, i + ys.length ≤ j → out.getD j 0 = 0) : Prd xs ys n i 0 out 0 :=
  ⟨h1, h2, by rw [h3]; simp [dval], h4, by decide, by decide⟩
theorem prd_n {a x y c : Int} (ha : 0 ≤ a ∧ a < 32768) (hx : 0 ≤ x ∧ x < 32768) (hy : 0 ≤ y ∧ y < 32768) (hc : 0 ≤ c ∧ c ≤ 32767) :
    0 ≤ x * y ∧ x * y ≤ 1073676289 ∧ 0 ≤ (a + x * y + c) / 32768 ∧ (a + x * y + c) / 32768 ≤ 32767 := by
  have h1 : 0 ≤ x * y := Int.mul_nonneg hx.1 hy.1
  have h2 : x * y ≤ 32767 * 32767 := Int.mul_le_mul (by omega) (by omega) hy.1 (by decide)
  omega
theorem Prd.step {xs ys : List Int} {n i k : Nat} {out : List Int} {c x y a : Int} (h : Prd xs ys n i k out c) (dx : DigOk xs) (dy : DigOk ys) (hk : k < ys.length) (hn : i + ys.length < n)
    (hx : x = xs.getD i 0) (hy : y = ys.getD k 0) (ha : a = out.getD (i + k) 0) :
    Prd xs ys n i (k + 1) (out.set (i + k) ((a + x * y + c) % 32768)) ((a + x * y + c) / 32768) := by
  have b := prd_n (ha ▸ h.ok.get (i + k)) (hx ▸ dx.get i) (hy ▸ dy.get k) ⟨h.lo, h.hi⟩
  refine ⟨h.ok.set (by omega) _, by rw [List.length_set]; exact h.len, ?_, fun j hj => ?_, b.2.2.1, b.2.2.2⟩
  · rw [dval_set (by rw [h.len]; omega), ← ha, dval_take_succ', ← hx, ← hy, ← Nat.add_assoc, P15_succ]
    have e1 := h.sum
    rw [← hx] at e1
    have e2 := Int.emod_add_mul_ediv (a + x * y + c) 32768
    have e3 : 32768 * P15 (i + k) * ((a + x * y + c) / 32768) = P15 (i + k) * (32768 * ((a + x * y + c) / 32768)) := by rw [Int.mul_comm 32768, Int.mul_assoc]
    have e4 : P15 (i + k) * ((a + x * y + c) % 32768 - a) + P15 (i + k) * (32768 * ((a + x * y + c) / 32768)) = P15 (i + k) * (x * y) + P15 (i + k) * c := by
      rw [← Int.mul_add, ← Int.mul_add]
      have e6 : (a + x * y + c) % 32768 - a + 32768 * ((a + x * y + c) / 32768) = x * y + c := by omega
      rw [e6]
    have e5 : P15 i * (x * (dval (ys.take k) + P15 k * y)) = P15 i * (x * dval (ys.take k)) + P15 (i + k) * (x * y) := by
      rw [Int.mul_add, Int.mul_add, P15_add, Int.mul_assoc (P15 i), Int.mul_left_comm x]
    rw [e5, e3]; omega
  · rw [getD_set_ne (by omega)]; exact h.far j hj
theorem Prd.row {xs ys : List Int} {n i : Nat} {out : List Int} {c a : Int} (h : Prd xs ys n i ys.length out c) (hn : i + ys.length < n) (ha : a = out.getD (i + ys.length) 0) :
    Prd xs ys n (i + 1) 0 (out.set (i + ys.length) (a + c)) 0 := by
  have a0 : a = 0 := ha.trans (h.far _ (Nat.le_refl _))
  subst a0
  rw [Int.zero_add]
  refine Prd.start (h.ok.set ⟨h.lo, by have := h.hi; omega⟩ _) (by rw [List.length_set]; exact h.len) ?_ fun j hj => ?_
  · rw [dval_set (by rw [h.len]; omega), ← ha, Int.sub_zero, h.sum, List.take_of_length_le (Nat.le_refl _), dval_take_succ', Int.add_mul, Int.mul_assoc]
  · rw [getD_set_ne (by omega)]; exact h.far j (by omega)
theorem dval_repl (n : Nat) : dval (List.replicate n 0) = 0 := by
  induction n with
  | zero => rfl
  | succ n ih => rw [List.replicate_succ, dval, ih]; rfl
theorem Prd.zero (xs ys : List Int) (n : Nat) : Prd xs ys n 0 0 (List.replicate n 0) 0 := by
  refine Prd.start (fun x hx => by rw [(List.mem_replicate.1 hx).2]; decide) (List.length_replicate ..) (by rw [dval_repl]; simp [dval]) fun j _ => ?_
  rcases Nat.lt_or_ge j n with h | h
  · rw [getD_in' (by rw [List.length_replicate]; exact h)]; simp
  · exact getD_out (by rw [List.length_replicate]; exact h)
theorem Prd.all {xs ys : List Int} {n : Nat} {out : List Int} {c : Int} (h : Prd xs ys n xs.length 0 out c) (hc : c = 0) : DigOk out ∧ dval out = dval xs * dval ys := by
  refine ⟨h.ok, ?_⟩
  have := h.sum
  rw [hc, Int.mul_zero, Int.add_zero, List.take_of_length_le (Nat.le_refl _)] at this
  rw [this]; simp [dval]
end Go.Proofs.Ytdlpfiiakmhnlaa
namespace Go.Proofs.Ytdlpfiiakmhnlaa

end Go.Proofs.Ytdlpfiiakmhnlaa
namespace Go.Proofs.Ytdlpfiiakmhnlaa
open Go.RowKit

/-- a slice of words that holds these -/
structure Ws (w : World) (b : Nat) (ws : List Int) : Prop where
  cell : ∀ i, i < ws.length → w.cell? ⟨b, i, none⟩ = some (.int .u64 (ws.getD i 0))
  blk : b < w.heap.size
  ok : WordsOk ws
  len : ws.length ≤ 4
theorem Ws.of {w w' : World} {b : Nat} {ws : List Int} (h : Ws w b ws) (hb : Below w.heap.size w w') : Ws w' b ws :=
  ⟨fun i hi => by rw [hb.cell (p := ⟨b, i, none⟩) h.blk]; exact h.cell i hi, Nat.lt_of_lt_of_le h.blk hb.size, h.ok, h.len⟩

theorem Blk.grown {w w' : World} {b : Nat} {c : Array Value} {t : TypeId} {row : Option Nat} (h : Blk w b c t) (hg : w.grownBy w' row) (hne : row ≠ some b) : Blk w' b c t := by
  have := hg.block b h.lt (fun e => hne e.symm)
  exact this.trans h
theorem ownsRow_drew {w : World} {base n size : Nat} {e : TypeId} {v : Value} {xs : List Value} (h : w.ownsRow base e size v n xs) : w.drew.ownsRow base e size v n xs := h
theorem words_get {ws : List Int} (h : WordsOk ws) (i : Nat) : Wd (ws.getD i 0) := by
  by_cases hi : i < ws.length
  · rw [getD_in' hi]; exact h _ (List.getElem_mem hi)
  · rw [getD_out (by omega)]; exact ⟨by decide, by decide⟩
theorem p2_le {i j : Nat} (h : i ≤ j) : (2 : Int) ^ i ≤ 2 ^ j := by
  have e : (2 : Int) ^ j = 2 ^ i * 2 ^ (j - i) := by rw [← Int.pow_add, show i + (j - i) = j by omega]
  have := p2_pos (j - i); have p := p2_pos i
  have : (2 : Int) ^ i * 1 ≤ 2 ^ i * 2 ^ (j - i) := Int.mul_le_mul_of_nonneg_left (by omega) (by omega)
  omega
theorem u64_p2 {i : Nat} (h : i < 64) : IntKind.u64.wrap (2 ^ i) = 2 ^ i := by
  have p := p2_pos i
  have e : (2 : Int) ^ 64 = 2 ^ i * 2 ^ (64 - i) := by rw [← Int.pow_add, show i + (64 - i) = 64 by omega]
  have q : (2 : Int) ^ i * 2 ≤ 2 ^ i * 2 ^ (64 - i) := by
    refine Int.mul_le_mul_of_nonneg_left ?_ (Int.le_of_lt p)
    have e2 : (2 : Int) ^ (64 - i) = 2 * 2 ^ (63 - i) := by rw [show 64 - i = (63 - i) + 1 by omega, Int.pow_succ, Int.mul_comm]
    have := p2_pos (63 - i)
    omega
  have e64 : (2 : Int) ^ 64 = 18446744073709551616 := rfl
  have hw : ∀ x : Int, 0 ≤ x → x < 18446744073709551616 → IntKind.u64.wrap x = x := fun x h0 h1 => by simp [IntKind.wrap, IntKind.signed, IntKind.bits]; omega
  exact hw _ (Int.le_of_lt p) (by omega)

set_option maxRecDepth 100000 in
set_option maxHeartbeats 1000000 in
theorem Words_any (b cap n : Nat) (ws : List Int) (w : World) (h : Ws w b ws) (hn : n = ws.length) :
    Calls Try.prog 95 #[.slice (some ⟨b, 0, none⟩) n cap] w (GivesBig w (uval ws) (64 * n / 15 + 1)) := by
 obtain ⟨i0, hi, hz0, hz1, hz2⟩ := info_parts info_int
 have HW := Lib.hid h
 have HN := Lib.hid hn
 have n4 : n ≤ 4 := hn ▸ h.len
 clear h hn
 go_enter Try.func95, Try.ntmps95
 go_wp2_with fail
 refine name_world ?_
 intro W hW
 have k0 : Blk W w.heap.size #[.bool false, .slice none 0 0] 109 := by rw [hW]; exact Blk.new _ _ _
 have hb0 : Below w.heap.size w W := by rw [hW]; exact below_a1 _ _
 clear hW
 go_loopw [3, 4, 5, 6] (fun out room many i wr => ∃ (k m L : Nat) (r : Int) (ds : List Int), k ≤ 64 * n ∧ i = .int .i64 k ∧ many = .int .i64 m ∧ m ≤ 14 ∧ room = .int .u64 r ∧ 0 ≤ r ∧ r < 32768 ∧ L ≤ 18 ∧ wr.ownsRow (w.heap.size + 1) 3 1 out L (dg ds) ∧
   Hid (ds.length = L ∧ Gat (uval ws) k m ds r) ∧ Blk wr w.heap.size #[.bool false, .slice none 0 0] 109 ∧ Below w.heap.size w wr) (fun _ _ _ i _ => 64 * n - (intOf i).toNat)
 case atStart => exact ⟨0, 0, 0, 0, [], Nat.zero_le _, rfl, rfl, by decide, rfl, by decide, by decide, by decide, World.ownsRow_nil _ _ _ _, ⟨rfl, Gat.zero _⟩, k0, hb0⟩
 case round =>
  clear k0 hb0
  rename_i wr
  obtain ⟨k, m, L, r, ds, hk, rfl, rfl, hm, rfl, r0, r1, hL, hown, hds, kr, hbl⟩ := hrel
  by_cases h1 : k < 64 * n
  ·have e0 : wr.cell? ⟨b, k / 64, none⟩ = some (.int .u64 (ws.getD (k / 64) 0)) := by rw [hbl.cell (p := ⟨b, k / 64, none⟩) HW.out.blk]; exact HW.out.cell _ (by rw [← HN.out]; omega)
   obtain ⟨x, hx⟩ : ∃ x, x = ws.getD (k / 64) 0 := ⟨_, rfl⟩
   rw [← hx] at e0
   have HX := Lib.hid hx
   have KR := Lib.hid kr
   clear hx kr
   have l0 : b < wr.heap.size := Nat.lt_of_lt_of_le HW.out.blk hbl.size
   go_wp2_with fail
   refine name_world ?_
   intro W hW
   subst hW
   refine wp_region_up W.heap.size 11 [(true, 0), (true, 1), (true, 2), (true, 3), (true, 4), (true, 5), (true, 6), (true, 7), (true, 8), (true, 9), (true, 10)] (by kernel_rfl) (by kernel_rfl) (fun _ _ d _ _ h => by cases d <;> exact h) ?_
   iterate 8
    refine wpS_takeL rfl rfl ?_
    go_big_quiet_step (rfl)
    refine wpQuiet_nil ?_
   obtain ⟨p, hp⟩ : ∃ p : Int, p = IntKind.u64.wrap (2 ^ (k % 64)) := ⟨_, rfl⟩
   rw [← hp]
   have p0 : 0 < p := by rw [hp, u64_p2 (by omega)]; exact p2_pos _
   have HP := Lib.hid hp
   clear hp
   have hxw : Wd x := HX.out ▸ words_get HW.out.ok _
   have x0 := hxw.lo
   have x1 : x ≤ 18446744073709551615 := by have := hxw.hi; omega
   clear hxw
   refine wpS_takeL rfl rfl ?_
   go_big_quiet_step (rfl)
   refine wpQuiet_nil ?_
   obtain ⟨q, hq⟩ : ∃ q : Int, q = x / p := ⟨_, rfl⟩
   rw [← hq]
   have q0 : 0 ≤ q := by rw [hq]; exact Int.ediv_nonneg x0 (Int.le_of_lt p0)
   have q1 : q ≤ 18446744073709551615 := by rw [hq]; exact Int.le_trans (Int.ediv_le_self _ x0) x1
   have HQ := Lib.hid hq
   clear hq x0 x1
   refine wpS_takeL rfl rfl ?_
   go_big_quiet_step (rfl)
   refine wpQuiet_nil ?_
   obtain ⟨t, ht⟩ : ∃ t : Int, t = q % 2 := ⟨_, rfl⟩
   rw [← ht]
   have t0 : 0 ≤ t := by omega
   have t1 : t ≤ 1 := by omega
   have hbit : t = uval ws / 2 ^ k % 2 := by
    rw [ht, HQ.out, HP.out, HX.out, u64_p2 (by omega)]
    exact uval_bit HW.out.ok k
   have HB := Lib.hid hbit
   clear ht hbit q0 q1
   refine wpS_takeL rfl rfl ?_
   go_big_quiet_step (rfl)
   refine wpQuiet_nil ?_
   refine wpS_nil ?_
   simp only [List.drop_succ_cons, List.drop_zero]
   have hst := hds.out.2.bit HB.out
   have r2 : r + t * 2 ^ m < 2 ^ 15 := Int.lt_of_lt_of_le hst.2.2 (p2_le (by omega))
   obtain ⟨r3, hr3⟩ : ∃ r3 : Int, r3 = r + t * 2 ^ m := ⟨_, rfl⟩
   rw [← hr3] at hst r2
   have r30 := hst.2.1
   have r31 : r3 ≤ 32767 := by have : (2 : Int) ^ 15 = 32768 := rfl; omega
   obtain ⟨P, hP⟩ : ∃ P : Int, P = IntKind.u64.wrap (2 ^ m) := ⟨_, rfl⟩
   have hP' : P = 2 ^ m := hP.trans (u64_p2 (by omega))
   have hT : IntKind.u64.wrap (t * P) = r3 - r := by
    rw [show t * P = r3 - r by rw [hP', hr3]; omega]
    have := Int.mul_nonneg t0 (Int.le_of_lt (p2_pos m))
    exact IntWalk.u64_in _ (by omega)
   have hP2 : IntKind.u64.wrap (2 ^ m) = P := hP.symm
   have hR : r + (r3 - r) = r3 := by omega
   have R3 := Lib.hid hr3
   clear hst r2 hr3 hP' hP
   have h15 : ((m : Int) + 1 == 15) = true ∨ ((m : Int) + 1 == 15) = false := by cases ((m : Int) + 1 == 15) <;> simp
   clear e0 l0
   rcases h15 with h15 | h15
   ·have m14 : m = 14 := by have := beq_iff_eq.1 h15; omega
    have hst := hds.out.2
    have hlen := hds.out.1
    rw [m14] at hst
    have R4 := R3.out
    rw [m14] at R4
    have ST := Lib.hid (hst.next HB.out)
    rw [← R4] at ST
    have HL := Lib.hid hlen
    have hL' : 15 * L ≤ 256 := by have := hst.pos; omega
    clear hst hlen R4 m14 hds
    go_wp2_with (at_builtin; refine wpList_append_own _ rfl _ _ 29 rfl (w.heap.size + 1) 3 i0 (.int .i64 0) 1 8 Try.underlying29 hi hz0 hz1 hz2 rfl (by decide) _ _ _ rfl ((ownsRow_drew hown).alloc _) ⟨W.heap.size, 0, none⟩ 1 1 [.int .i64 r3] rfl rfl (one_new W.drew _ _) (one_cell _) (by unfold maxLen; omega) (by omega) (by have := hbl.size; have := KR.out.lt; simp; omega) ?_; intro v' w1 hown' hgrow _)
    have hb1 : Below w.heap.size w w1 := (hbl.drew.alloc hbl.size _).grown hgrow (by have := hbl.size; simp; omega) (fun k hk => Nat.le_of_succ_le (hown.lt k hk).1)
    have k1 : Blk w1 w.heap.size #[.bool false, .slice none 0 0] 109 := (KR.out.drew.alloc _).grown hgrow (fun h => Nat.lt_irrefl _ (hown.lt _ h).1)
    rw [← dg_snoc] at hown'
    clear hown hbl hgrow
    go_wp2
    go_roundw
    case rel => exact ⟨k + 1, 0, L + 1, 0, _, by omega, by go_num, rfl, by decide, rfl, by decide, by decide, by omega, hown', ⟨by rw [List.length_append, HL.out]; rfl, ST.out⟩, k1, hb1⟩
    case measure => simp [intOf]; omega
   ·have m13 : m + 1 ≤ 14 := by have := beq_eq_false_iff_ne.1 h15; omega
    have ST := Lib.hid (hds.out.2.on HB.out)
    rw [← R3.out] at ST
    have HL := Lib.hid hds.out.1
    have k1 : Blk W.drew w.heap.size #[.bool false, .slice none 0 0] 109 := KR.out.drew
    have K1 := Lib.hid k1
    clear hds k1
    go_wp2
    go_roundw
    case rel => exact ⟨k + 1, m + 1, L, r3, ds, by omega, by go_num, by go_num, by omega, rfl, by omega, by omega, hL, ownsRow_drew hown, ⟨HL.out, ST.out⟩, K1.out, hbl.drew⟩
    case measure => simp [intOf]; omega
  ·have hk' : k = 64 * n := by omega
   have HK := Lib.hid hk'
   have KR := Lib.hid kr
   have hL' : 15 * L ≤ 256 := by have := hds.out.2.pos; have := hds.out.1; omega
   have gl : (ds ++ [r]).length = L + 1 := by rw [List.length_append, hds.out.1]; rfl
   have fin := hds.out.2.done hm (uval_bd HW.out.ok).1 (by rw [HK.out, HN.out]; exact (uval_bd HW.out.ok).2)
   have HP := Lib.hid (show (ds ++ [r]).length ≤ 64 * n / 15 + 1 by have := HK.out; have := hds.out.2.pos; have := hds.out.1; omega)
   have FIN := Lib.hid fin
   have GL := Lib.hid gl
   clear hk' kr hds gl fin
   go_wp2_with (at_builtin; refine wpList_append_own _ rfl _ _ 29 rfl (w.heap.size + 1) 3 i0 (.int .i64 0) 1 8 Try.underlying29 hi hz0 hz1 hz2 rfl (by decide) _ _ _ rfl (hown.alloc _) ⟨wr.heap.size, 0, none⟩ 1 1 [.int .i64 r] rfl rfl (one_new _ _ _) (one_cell _) (by unfold maxLen; omega) (by omega) (by have := hbl.size; have := KR.out.lt; simp; omega) ?_; intro v' w1 hown' hgrow _; rw [← dg_snoc] at hown'; obtain ⟨ao2, b2, cap2, hv, hsl⟩ := own_sl hown' GL.out (by omega); subst hv; rw [GL.out]; have hb1 : Below w.heap.size w w1 := (hbl.alloc hbl.size _).grown hgrow (by have := hbl.size; simp; omega) (fun k hk => Nat.le_of_succ_le (hown.lt k hk).1); have k1 : Blk w1 w.heap.size #[.bool false, .slice none 0 0] 109 := (KR.out.alloc _).grown hgrow (fun h => Nat.lt_irrefl _ (hown.lt _ h).1); have SL := Lib.hid hsl; have K1 := Lib.hid k1; clear hown hown' hbl hgrow hsl k1 KR)
   have T := trim_any false ao2 b2 cap2 (ds ++ [r]) w1 SL.out FIN.out.1 (64 * n / 15 + 1) HP.out
   rw [GL.out, FIN.out.2] at T
   refine T.mono ?_
   clear T
   rintro e w3 ⟨v3, rfl, hbig, hn⟩
   have HBG := Lib.hid hbig
   have hvv := hbig.shape
   clear hbig
   obtain ⟨n3, a3, q3, c3, rfl⟩ := hvv
   have k2 : Blk w3 _ _ _ := K1.out.of hn
   have d0 := k2.cell 0
   have d1 := k2.cell 1
   have f0 := k2.free 0
   have f1 := k2.free 1
   simp only [List.getElem?_toArray, List.getElem?_cons_zero, List.getElem?_cons_succ] at d0 d1
   have hb2 := hb1.trans (hn.mono hb1.size)
   clear hn k2 hb1
   go_wp2
   simp [bodyPost, results, Try.results95, go_sem, d0, d1]
   refine ⟨_, rfl, ?_, set2_below hb2 (Nat.le_refl _) _ _⟩
   exact HBG.out.set2 d0 (.bool n3) (.slice a3 q3 c3)
end Go.Proofs.Ytdlpfiiakmhnlaa
namespace Go.Proofs.Ytdlpfiiakmhnlaa
open Go.RowKit

/-- a number that is not too great has not too many digits -/
theorem Big.fit {w : World} {v : Value} {n : Int} {L k : Nat} (h : Big w v n L) (hk : -P15 k < n ∧ n < P15 k) : Big w v n k := by
  obtain ⟨neg, ao, b, cap, ds, h1, h2, h3, h4, h5, h6, h7⟩ := h
  refine ⟨neg, ao, b, cap, ds, h1, h2, h3, h4, h5, h6, norm_len h3 h4 ?_⟩
  cases neg <;> simp at h6 <;> omega
theorem GivesBig.fit {w : World} {n : Int} {L k : Nat} {e : Ending} {w' : World} (h : GivesBig w n L e w') (hk : -P15 k < n ∧ n < P15 k) : GivesBig w n k e w' := by
  obtain ⟨v, h1, h2, h3⟩ := h
  exact ⟨v, h1, h2.fit hk, h3⟩
end Go.Proofs.Ytdlpfiiakmhnlaa
namespace Go.Proofs.Ytdlpfiiakmhnlaa
open Go.RowKit

end Go.Proofs.Ytdlpfiiakmhnlaa

