/- What Bits tells: how many bits a number's size has. Conditions: the number is one of 256 bits. -/
import Derived.Test.YtcfiemeknocgjaaDoorWrB
import Derived.Test.YtcfiemeknocgjaaDoorAwBD
import Derived.Lib.BitFns
import Derived.Lib.ItoaNum
import Derived.IntWalk
namespace Go.Proofs.YtcfiemeknocgjaaDoor
open Go.RowKit

def btn (x : Int) : Int := (Go.bitLen (sz x).toNat : Int)
theorem sz_in2 {x : Int} (h : InI x) : 0 ≤ sz x ∧ sz x ≤ b255 := by
  unfold sz; rw [ng_in h]; unfold InI b255 at *
  by_cases g : x < 0
  · rw [decide_eq_true g]; rw [cond_true]; omega
  · rw [decide_eq_false g]; rw [cond_false]; omega
theorem bl_eq {a : Nat} (h : a < 2 ^ 64) : Lib.bitLen a = Go.bitLen a := by
  have s := Go.bitLen_spec a
  by_cases h0 : a = 0
  · subst h0; decide
  · have t := Lib.bitLenAux_bounds 64 a h h0
    have t' : 1 ≤ Lib.bitLen a ∧ 2 ^ (Lib.bitLen a - 1) ≤ a ∧ a < 2 ^ Lib.bitLen a := t
    have s1 := s.1
    have s2 := s.2 h0
    obtain ⟨t0, t1, t2⟩ := t'
    have a1 : Lib.bitLen a - 1 < Go.bitLen a := (Nat.pow_lt_pow_iff_right (by decide : 1 < 2)).1 (Nat.lt_of_le_of_lt t1 s1)
    have a2 : Go.bitLen a - 1 < Lib.bitLen a := (Nat.pow_lt_pow_iff_right (by decide : 1 < 2)).1 (Nat.lt_of_le_of_lt s2 t2)
    omega
theorem btn_hi {s : Int} {j : Nat} {a J : Int} (h0 : 0 ≤ s) (hJ : (2 : Int) ^ j = J) (ha : a = s / J) (hn : ¬ a = 0) (hb : a < 18446744073709551616) : (Go.bitLen s.toNat : Int) = j + (Lib.bitLen a.toNat : Int) := by
  obtain ⟨n, rfl⟩ := Int.eq_ofNat_of_zero_le h0
  have hJ' : ((2 ^ j : Nat) : Int) = J := by rw [← hJ]; simp
  have e : (n : Int).toNat / 2 ^ j = a.toNat := by
    rw [ha, ← hJ', ← Int.natCast_ediv]; rfl
  have ha0 : 0 ≤ a := by rw [ha]; exact Int.ediv_nonneg h0 (by rw [← hJ']; exact Int.natCast_nonneg _)
  have hn' : (n : Int).toNat / 2 ^ j ≠ 0 := by rw [e]; omega
  have := Go.bitLen_shift (n : Int).toNat j hn'
  rw [e, ← bl_eq (show a.toNat < 2 ^ 64 by omega)] at this
  omega
theorem btn_le {a : Int} (h : 0 ≤ a ∧ a < 18446744073709551616) : Lib.bitLen a.toNat ≤ 64 := Lib.bitLen_le a.toNat 64 (by decide) (by omega)
theorem wr_small {z : Int} (h : 0 ≤ z) (k : z ≤ 1000) : IntKind.i64.wrap z = z := Go.IntWalk.i64_in z (by omega)
theorem Bits_v (x c : Int) (hc : btn x = c) (ix : InI x) (w : World) :
    Calls Tryd.prog 19 #[wI x] w fun e w' => e = .returned (.int .i64 c) ∧ Below w.heap.size w w' := by
  obtain ⟨s0, s1⟩ := sz_in2 ix
  have hs : ∀ w, Calls Tryd.prog 28 #[wI x] w fun e w' => e = .returned (.agg #[.int .u64 (wd0 (sz x)), .int .u64 (wd1 (sz x)), .int .u64 (wd2 (sz x)), .int .u64 (wd3 (sz x))]) ∧ Below w.heap.size w w' := fun w => size_any x w
  unfold btn at hc
  generalize sz x = s at *
  have q0 : wd0 s = s % b64 := rfl
  have q1 : wd1 s = s / b64 % b64 := rfl
  have q2 : wd2 s = s / b128 % b64 := rfl
  have q3 : wd3 s = s / b192 % b64 := rfl
  unfold b64 b128 b192 b255 at *
  by_cases n3 : wd3 s = 0
  · rw [n3] at hs
    by_cases n2 : wd2 s = 0
    · rw [n2] at hs
      by_cases n1 : wd1 s = 0
      · rw [n1] at hs
        by_cases n0 : wd0 s = 0
        · rw [n0] at hs
          have : s = 0 := by omega
          subst this
          have e : c = 0 := by rw [← hc]; decide
          rw [e]
          exact Bits_z x w hs
        · have e : wd0 s = s := by omega
          have l := btn_le (a := wd0 s) (by omega)
          refine Bits_0 x (wd0 s) n0 (by omega) c ?_ w hs
          rw [wr_small (by omega) (by omega), ← hc, e, bl_eq (by omega)]
      · have e := btn_hi (j := 64) (J := 18446744073709551616) (a := wd1 s) s0 (by decide) (by omega) n1 (by omega)
        have l := btn_le (a := wd1 s) (by omega)
        refine Bits_1 x (wd0 s) (wd1 s) n1 (by omega) c ?_ w hs
        rw [wr_small (by omega) (by omega), ← hc, e]
        rfl
    · have e := btn_hi (j := 128) (J := 340282366920938463463374607431768211456) (a := wd2 s) s0 (by decide) (by omega) n2 (by omega)
      have l := btn_le (a := wd2 s) (by omega)
      refine Bits_2 x (wd0 s) (wd1 s) (wd2 s) n2 (by omega) c ?_ w hs
      rw [wr_small (by omega) (by omega), ← hc, e]
      rfl
  · have e := btn_hi (j := 192) (J := 6277101735386680763835789423207666416102355444464034512896) (a := wd3 s) s0 (by decide) (by omega) n3 (by omega)
    have l := btn_le (a := wd3 s) (by omega)
    refine Bits_3 x (wd0 s) (wd1 s) (wd2 s) (wd3 s) n3 (by omega) c ?_ w hs
    rw [wr_small (by omega) (by omega), ← hc, e]
    rfl
end Go.Proofs.YtcfiemeknocgjaaDoor
