/- Plain arithmetic of numbers of four 64-bit words: no Go in sight. Conditions: none. -/
import Derived.KernelRfl
namespace Go.Proofs.YtcfiemeknocgjaaDoor

/-- 2^64, 2^128, 2^192, 2^256 and 2^255, 2^63 behind names. -/
def b64 : Int := 18446744073709551616
def b128 : Int := 340282366920938463463374607431768211456
def b192 : Int := 6277101735386680763835789423207666416102355444464034512896
def b256 : Int := 115792089237316195423570985008687907853269984665640564039457584007913129639936
def b255 : Int := 57896044618658097711785492504343953926634992332820282019728792003956564819968
def b63 : Int := 9223372036854775808

/-- the words of a number, in two's complement of any length -/
def wd0 (x : Int) : Int := x % b64
def wd1 (x : Int) : Int := x / b64 % b64
def wd2 (x : Int) : Int := x / b128 % b64
def wd3 (x : Int) : Int := x / b192 % b64
/-- the i-th word, at a number i -/
def wd (i : Nat) (x : Int) : Int := match i with | 0 => wd0 x | 1 => wd1 x | 2 => wd2 x | 3 => wd3 x | _ => 0

/-- what four words are, without a sign -/
def un4 (a b c d : Int) : Int := a + b * b64 + c * b128 + d * b192

/-- a word -/
structure Wd (x : Int) : Prop where
  lo : 0 ≤ x
  hi : x < 18446744073709551616

theorem wd0_Wd (x : Int) : Wd (wd0 x) := by unfold wd0 b64; constructor <;> omega
theorem wd1_Wd (x : Int) : Wd (wd1 x) := by unfold wd1 b64; constructor <;> omega
theorem wd2_Wd (x : Int) : Wd (wd2 x) := by unfold wd2 b64 b128; constructor <;> omega
theorem wd3_Wd (x : Int) : Wd (wd3 x) := by unfold wd3 b64 b192; constructor <;> omega

theorem un4_wd (x : Int) : un4 (wd0 x) (wd1 x) (wd2 x) (wd3 x) = x % b256 := by
  unfold un4 wd0 wd1 wd2 wd3 b64 b128 b192 b256; omega

theorem wd0_un4 {a b c d : Int} (ha : Wd a) : wd0 (un4 a b c d) = a := by
  obtain ⟨h1, h2⟩ := ha; unfold wd0 un4 b64 b128 b192; omega
theorem wd1_un4 {a b c d : Int} (ha : Wd a) (hb : Wd b) : wd1 (un4 a b c d) = b := by
  obtain ⟨h1, h2⟩ := ha; obtain ⟨h3, h4⟩ := hb; unfold wd1 un4 b64 b128 b192; omega
theorem wd2_un4 {a b c d : Int} (ha : Wd a) (hb : Wd b) (hc : Wd c) : wd2 (un4 a b c d) = c := by
  obtain ⟨h1, h2⟩ := ha; obtain ⟨h3, h4⟩ := hb; obtain ⟨h5, h6⟩ := hc; unfold wd2 un4 b64 b128 b192; omega
theorem wd3_un4 {a b c d : Int} (ha : Wd a) (hb : Wd b) (hc : Wd c) (hd : Wd d) : wd3 (un4 a b c d) = d := by
  obtain ⟨h1, h2⟩ := ha; obtain ⟨h3, h4⟩ := hb; obtain ⟨h5, h6⟩ := hc; obtain ⟨h7, h8⟩ := hd; unfold wd3 un4 b64 b128 b192; omega

theorem un4_bd {a b c d : Int} (ha : Wd a) (hb : Wd b) (hc : Wd c) (hd : Wd d) : 0 ≤ un4 a b c d ∧ un4 a b c d < b256 := by
  obtain ⟨h1, h2⟩ := ha; obtain ⟨h3, h4⟩ := hb; obtain ⟨h5, h6⟩ := hc; obtain ⟨h7, h8⟩ := hd; unfold un4 b64 b128 b192 b256; omega

/-- the number of 256 bits with a sign that a number leaves -/
def sg (x : Int) : Int := (x + b255) % b256 - b255

theorem sg_bd (x : Int) : -b255 ≤ sg x ∧ sg x < b255 := by unfold sg b255 b256; omega
theorem sg_id {x : Int} (h : -b255 ≤ x ∧ x < b255) : sg x = x := by unfold sg b255 b256 at *; omega
theorem wd0_sg (x : Int) : wd0 (sg x) = wd0 x := by unfold wd0 sg b64 b255 b256; omega
theorem wd1_sg (x : Int) : wd1 (sg x) = wd1 x := by unfold wd1 sg b64 b255 b256; omega
theorem wd2_sg (x : Int) : wd2 (sg x) = wd2 x := by unfold wd2 sg b64 b128 b255 b256; omega
theorem wd3_sg (x : Int) : wd3 (sg x) = wd3 x := by unfold wd3 sg b64 b192 b255 b256; omega
theorem wd0_mod (x : Int) : wd0 (x % b256) = wd0 x := by unfold wd0 b64 b256; omega
theorem wd1_mod (x : Int) : wd1 (x % b256) = wd1 x := by unfold wd1 b64 b256; omega
theorem wd2_mod (x : Int) : wd2 (x % b256) = wd2 x := by unfold wd2 b64 b128 b256; omega
theorem wd3_mod (x : Int) : wd3 (x % b256) = wd3 x := by unfold wd3 b64 b192 b256; omega

/-- two numbers have the same four words just if they are the same modulo 2^256 -/
theorem wds_eq {x y : Int} (h0 : wd0 x = wd0 y) (h1 : wd1 x = wd1 y) (h2 : wd2 x = wd2 y) (h3 : wd3 x = wd3 y) : x % b256 = y % b256 := by
  rw [← un4_wd x, ← un4_wd y, h0, h1, h2, h3]

/-- the words of a sum, as the carries make them -/
theorem plus_wd0 (x y c : Int) : wd0 (x + y + c) = (wd0 x + wd0 y + c) % 18446744073709551616 := by unfold wd0 b64; omega
theorem plus_wd1 (x y c : Int) : wd1 (x + y + c) = (wd1 x + wd1 y + (wd0 x + wd0 y + c) / 18446744073709551616) % 18446744073709551616 := by unfold wd0 wd1 b64; omega
theorem plus_wd2 (x y c : Int) : wd2 (x + y + c) = (wd2 x + wd2 y + (wd1 x + wd1 y + (wd0 x + wd0 y + c) / 18446744073709551616) / 18446744073709551616) % 18446744073709551616 := by
  have h1 : x = 340282366920938463463374607431768211456 * (x / 340282366920938463463374607431768211456) + wd1 x * 18446744073709551616 + wd0 x := by unfold wd0 wd1 b64; omega
  have h2 : y = 340282366920938463463374607431768211456 * (y / 340282366920938463463374607431768211456) + wd1 y * 18446744073709551616 + wd0 y := by unfold wd0 wd1 b64; omega
  have a0 := wd0_Wd x; have a1 := wd1_Wd x; have b0 := wd0_Wd y; have b1 := wd1_Wd y
  obtain ⟨a0, a0'⟩ := a0; obtain ⟨a1, a1'⟩ := a1; obtain ⟨b0, b0'⟩ := b0; obtain ⟨b1, b1'⟩ := b1
  have e : (x + y + c) / 340282366920938463463374607431768211456 = x / 340282366920938463463374607431768211456 + y / 340282366920938463463374607431768211456 + (wd1 x + wd1 y + (wd0 x + wd0 y + c) / 18446744073709551616) / 18446744073709551616 := by omega
  unfold wd2 b128 b64; rw [e]; omega
theorem plus_wd3 (x y c : Int) : wd3 (x + y + c) = (wd3 x + wd3 y + (wd2 x + wd2 y + (wd1 x + wd1 y + (wd0 x + wd0 y + c) / 18446744073709551616) / 18446744073709551616) / 18446744073709551616) % 18446744073709551616 := by
  have h1 : x = 6277101735386680763835789423207666416102355444464034512896 * (x / 6277101735386680763835789423207666416102355444464034512896) + wd2 x * 340282366920938463463374607431768211456 + wd1 x * 18446744073709551616 + wd0 x := by unfold wd0 wd1 wd2 b64 b128; omega
  have h2 : y = 6277101735386680763835789423207666416102355444464034512896 * (y / 6277101735386680763835789423207666416102355444464034512896) + wd2 y * 340282366920938463463374607431768211456 + wd1 y * 18446744073709551616 + wd0 y := by unfold wd0 wd1 wd2 b64 b128; omega
  have a0 := wd0_Wd x; have a1 := wd1_Wd x; have a2 := wd2_Wd x; have b0 := wd0_Wd y; have b1 := wd1_Wd y; have b2 := wd2_Wd y
  obtain ⟨a0, a0'⟩ := a0; obtain ⟨a1, a1'⟩ := a1; obtain ⟨b0, b0'⟩ := b0; obtain ⟨b1, b1'⟩ := b1; obtain ⟨a2, a2'⟩ := a2; obtain ⟨b2, b2'⟩ := b2
  have e : (x + y + c) / 6277101735386680763835789423207666416102355444464034512896 = x / 6277101735386680763835789423207666416102355444464034512896 + y / 6277101735386680763835789423207666416102355444464034512896 + (wd2 x + wd2 y + (wd1 x + wd1 y + (wd0 x + wd0 y + c) / 18446744073709551616) / 18446744073709551616) / 18446744073709551616 := by omega
  unfold wd3 b192 b64; rw [e]; omega

/-- the words of -1 - x -/
theorem not_wd0 (x : Int) : wd0 (-1 - x) = 18446744073709551615 - wd0 x := by unfold wd0 b64; omega
theorem not_wd1 (x : Int) : wd1 (-1 - x) = 18446744073709551615 - wd1 x := by unfold wd1 b64; omega
theorem not_wd2 (x : Int) : wd2 (-1 - x) = 18446744073709551615 - wd2 x := by unfold wd2 b64 b128; omega
theorem not_wd3 (x : Int) : wd3 (-1 - x) = 18446744073709551615 - wd3 x := by unfold wd3 b64 b192; omega

/-- is it below 0: the highest bit -/
def ng (x : Int) : Bool := wd3 x / 9223372036854775808 != 0
theorem ng_iff (x : Int) : ng x = true ↔ b255 ≤ x % b256 := by
  unfold ng; rw [bne_iff_ne]; unfold wd3 b64 b192 b255 b256; omega
theorem ng_of_in {x : Int} (h : -b255 ≤ x ∧ x < b255) : ng x = decide (x < 0) := by
  rw [Bool.eq_iff_iff, ng_iff, decide_eq_true_iff]; unfold b255 b256 at *; omega
theorem wd0_0 : wd0 0 = 0 := by decide
theorem wd1_0 : wd1 0 = 0 := by decide
theorem wd2_0 : wd2 0 = 0 := by decide
theorem wd3_0 : wd3 0 = 0 := by decide

/-- two values of four words are the same -/
def eq4 (a0 a1 a2 a3 b0 b1 b2 b3 : Int) : Bool := a0 == b0 && a1 == b1 && a2 == b2 && a3 == b3
theorem eq4_wd (x y : Int) : eq4 (wd0 x) (wd1 x) (wd2 x) (wd3 x) (wd0 y) (wd1 y) (wd2 y) (wd3 y) = decide (x % b256 = y % b256) := by
  rw [Bool.eq_iff_iff, decide_eq_true_iff]
  unfold eq4
  simp only [Bool.and_eq_true, beq_iff_eq]
  constructor
  · rintro ⟨⟨⟨h0, h1⟩, h2⟩, h3⟩; exact wds_eq h0 h1 h2 h3
  · intro h
    refine ⟨⟨⟨?_, ?_⟩, ?_⟩, ?_⟩
    · rw [← wd0_mod x, h, wd0_mod]
    · rw [← wd1_mod x, h, wd1_mod]
    · rw [← wd2_mod x, h, wd2_mod]
    · rw [← wd3_mod x, h, wd3_mod]
theorem eq4_0 (x : Int) : eq4 (wd0 x) (wd1 x) (wd2 x) (wd3 x) 0 0 0 0 = decide (x % b256 = 0) := by
  have := eq4_wd x 0
  rw [wd0_0, wd1_0, wd2_0, wd3_0] at this
  rw [this]; rfl
/-- the size of a number, as bits without a sign -/
def sz (x : Int) : Int := bif ng x then -x else x
/-- a number that a number of the machine may be -/
def InI (x : Int) : Prop := -b255 ≤ x ∧ x < b255
instance (x : Int) : Decidable (InI x) := by unfold InI; exact inferInstance
theorem ng_in {x : Int} (h : InI x) : ng x = decide (x < 0) := ng_of_in h
theorem sz_in {x : Int} (h : InI x) : sz x = x.natAbs := by
  unfold sz; rw [ng_in h]
  by_cases hx : x < 0 <;> simp [hx] <;> omega

/-- is one size below another one, word by word -/
def lt4 (a0 a1 a2 a3 b0 b1 b2 b3 : Int) : Bool :=
  bif a3 != b3 then decide (a3 < b3) else bif a2 != b2 then decide (a2 < b2) else bif a1 != b1 then decide (a1 < b1) else bif a0 != b0 then decide (a0 < b0) else false
theorem lt4_un {a0 a1 a2 a3 b0 b1 b2 b3 : Int} (h0 : Wd a0) (h1 : Wd a1) (h2 : Wd a2) (g0 : Wd b0) (g1 : Wd b1) (g2 : Wd b2) :
    lt4 a0 a1 a2 a3 b0 b1 b2 b3 = decide (un4 a0 a1 a2 a3 < un4 b0 b1 b2 b3) := by
  obtain ⟨p0, q0⟩ := h0; obtain ⟨p1, q1⟩ := h1; obtain ⟨p2, q2⟩ := h2
  obtain ⟨r0, s0⟩ := g0; obtain ⟨r1, s1⟩ := g1; obtain ⟨r2, s2⟩ := g2
  rw [Bool.eq_iff_iff, decide_eq_true_iff]
  unfold lt4 un4 b64 b128 b192
  by_cases e3 : a3 = b3
  · subst e3
    by_cases e2 : a2 = b2
    · subst e2
      by_cases e1 : a1 = b1
      · subst e1
        by_cases e0 : a0 = b0
        · subst e0; simp
        · have : (a0 != b0) = true := by simpa using e0
          simp only [bne_self_eq_false, cond_false, this, cond_true, decide_eq_true_iff]; omega
      · have : (a1 != b1) = true := by simpa using e1
        simp only [bne_self_eq_false, cond_false, this, cond_true, decide_eq_true_iff]; omega
    · have : (a2 != b2) = true := by simpa using e2
      simp only [bne_self_eq_false, cond_false, this, cond_true, decide_eq_true_iff]; omega
  · have : (a3 != b3) = true := by simpa using e3
    simp only [this, cond_true, decide_eq_true_iff]; omega
/-- is one size below another one -/
def ltU (x y : Int) : Bool := decide (x % b256 < y % b256)
theorem lt4_wd (x y : Int) : lt4 (wd0 x) (wd1 x) (wd2 x) (wd3 x) (wd0 y) (wd1 y) (wd2 y) (wd3 y) = ltU x y := by
  rw [lt4_un (wd0_Wd x) (wd1_Wd x) (wd2_Wd x) (wd0_Wd y) (wd1_Wd y) (wd2_Wd y), un4_wd, un4_wd]; rfl
/-- an int -/
def In64 (n : Int) : Prop := -9223372036854775808 ≤ n ∧ n < 9223372036854775808
theorem wd_of_nat {n : Int} (h0 : 0 ≤ n) (h1 : n < 9223372036854775808) : wd0 n = n ∧ wd1 n = 0 ∧ wd2 n = 0 ∧ wd3 n = 0 := by
  unfold wd0 wd1 wd2 wd3 b64 b128 b192; omega
theorem wd_of_neg {n : Int} (h0 : n < 0) (h1 : -9223372036854775808 ≤ n) : wd0 n = n % 18446744073709551616 ∧ wd1 n = 18446744073709551615 ∧ wd2 n = 18446744073709551615 ∧ wd3 n = 18446744073709551615 := by
  unfold wd0 wd1 wd2 wd3 b64 b128 b192; omega
end Go.Proofs.YtcfiemeknocgjaaDoor
