/- The walks of gromaref01's Power and Read. Conditions: the power is at most 256. -/
import Derived.Test.YtcfiemeknocgjaaDoorBig8
namespace Go.Proofs.YtcfiemeknocgjaaDoor
open Go.RowKit

/-- a number that is not too great has not too many digits -/
theorem Big.fit {w : World} {v : Value} {n : Int} {L k : Nat} (h : Big w v n L) (hk : -P15 k < n ∧ n < P15 k) : Big w v n k := by
  obtain ⟨neg, ao, b, cap, ds, h1, h2, h3, h4, h5, h6, h7⟩ := h
  refine ⟨neg, ao, b, cap, ds, h1, h2, h3, h4, h5, h6, norm_len h3 h4 ?_⟩
  cases neg <;> simp at h6 <;> omega
theorem GivesBig.fit {w : World} {n : Int} {L k : Nat} {e : Ending} {w' : World} (h : GivesBig w n L e w') (hk : -P15 k < n ∧ n < P15 k) : GivesBig w n k e w' := by
  obtain ⟨v, h1, h2, h3⟩ := h
  exact ⟨v, h1, h2.fit hk, h3⟩
theorem p2_15 (k : Nat) : (2 : Int) ^ k < P15 (k / 15 + 1) := by
  rw [P15_two]
  have h1 : (2 : Int) ^ k * 2 = 2 ^ (k + 1) := (Int.pow_succ ..).symm
  have h2 := p2_le (show k + 1 ≤ 15 * (k / 15 + 1) by omega)
  have := p2_pos k
  omega
theorem big_one (w : World) : Big (w.alloc (.cells #[.int .i64 1] 3)) (.agg #[.bool false, .slice (some ⟨w.heap.size, 0, none⟩) 1 1]) 1 1 := by
  have hb := Blk.new w #[.int .i64 1] 3
  refine ⟨false, some ⟨w.heap.size, 0, none⟩, w.heap.size, 1, [1], rfl, ⟨fun _ => rfl, fun h => (by cases h), by decide, by decide, by decide, fun i hi => ?_, fun _ => hb.lt⟩, ?_, .inr ?_, fun h => (by cases h), rfl, by decide⟩
  · have : i = 0 := by simp at hi; exact hi
    subst this
    rw [hb.cell]; rfl
  · exact DigOk.one (by decide)
  · decide

set_option maxRecDepth 100000 in
set_option maxHeartbeats 1000000 in
theorem Power_any (n : Nat) (w : World) (hn : n ≤ 256) :
    Calls Tryd.prog 21 #[.int .i64 n] w (GivesBig w (2 ^ n) (n / 15 + 1)) := by
  go_enter Tryd.func21, Tryd.ntmps21
  go_wp2_with fail
  refine name_world ?_
  intro W hW
  have k0 : Blk W w.heap.size #[.bool false, .slice none 0 0] 34 := by rw [hW]; exact ((Blk.new _ _ _).alloc _).alloc _
  have k1 : Blk W (w.heap.size + 1 + 1) #[.bool false, .slice (some ⟨w.heap.size + 1, 0, none⟩) 1 1] 34 := by rw [hW]; exact Blk.new2 _ _ _ _ _
  have hbg : Big W (.agg #[.bool false, .slice (some ⟨w.heap.size + 1, 0, none⟩) 1 1]) 1 1 := by
    rw [hW]
    have := (big_one (w.alloc (.cells #[.bool false, .slice none 0 0] 34))).of (((Below.refl _ _).alloc (Nat.le_refl _) (.cells #[.bool false, .slice (some ⟨w.heap.size + 1, 0, none⟩) 1 1] 34)))
    simpa using this
  have hb0 : Below w.heap.size w W := by rw [hW]; exact below_a3 _ _ _ _
  clear hW
  go_loopw [4] (fun i wr => ∃ (k : Nat) (neg : Bool) (a : Option Addr) (l c : Nat), k ≤ n ∧ i = .int .i64 k ∧ Blk wr w.heap.size #[.bool false, .slice none 0 0] 34 ∧ Blk wr (w.heap.size + 1 + 1) #[.bool neg, .slice a l c] 34 ∧
      Hid (Big wr (.agg #[.bool neg, .slice a l c]) (2 ^ k) (k / 15 + 1)) ∧ Below w.heap.size w wr) (fun i _ => n - (intOf i).toNat)
  case atStart => exact ⟨0, false, _, 1, 1, Nat.zero_le _, rfl, k0, k1, hbg, hb0⟩
  case round =>
    clear k0 k1 hbg hb0
    rename_i wr
    obtain ⟨k, neg, a, l, c, hk, rfl, k0, k1, hbg, hbl⟩ := hrel
    have c0 := k1.cell 0
    have c1 := k1.cell 1
    have f0 := k1.free 0
    have f1 := k1.free 1
    simp only [List.getElem?_toArray, List.getElem?_cons_zero, List.getElem?_cons_succ] at c0 c1
    by_cases h1 : k < n
    · have K0 := Lib.hid k0
      have K1 := Lib.hid k1
      clear k0 k1 f0 f1
      go_wp2_with fail
      refine (bigAdd_any _ _ (2 ^ k) (2 ^ k) (k / 15 + 1) _ hbg.out hbg.out (by omega)).mono ?_
      rintro e w3 ⟨v3, rfl, hbig, hn⟩
      have e2 : (2 : Int) ^ k + 2 ^ k = 2 ^ (k + 1) := by rw [Int.pow_succ]; omega
      rw [e2] at hbig
      have hf := hbig.fit (k := (k + 1) / 15 + 1) ⟨by have := p2_15 (k + 1); have := p2_pos (k + 1); omega, p2_15 (k + 1)⟩
      have HBG := Lib.hid hf
      have hvv := hbig.shape
      clear hbig hf e2 c0 c1
      obtain ⟨n3, a3, q3, c3, rfl⟩ := hvv
      have k0 := K0.out.of hn
      have k1 := K1.out.of hn
      have d0 := k1.cell 0
      have d1 := k1.cell 1
      have f0 := k1.free 0
      have f1 := k1.free 1
      simp only [List.getElem?_toArray, List.getElem?_cons_zero, List.getElem?_cons_succ] at d0 d1
      have hb2 := hbl.trans (hn.mono hbl.size)
      have K0' := Lib.hid k0
      have K1' := Lib.hid k1
      clear hn k0 k1 K0 K1 hbl hbg
      go_wp2
      go_roundw
      case rel =>
        refine ⟨k + 1, n3, a3, q3, c3, by omega, by go_num, (K0'.out.set (by omega) _ _ _).set (by omega) _ _ _, ?_, HBG.out.set2 d0 (.bool n3) (.slice a3 q3 c3), set2_below hb2 (by omega) _ _⟩
        exact (Blk.put K1'.out 0 _).put 1 _
      case measure => simp [intOf]; omega
    · have hk' : k = n := by omega
      subst hk'
      have d0 := k0.cell 0
      have d1 := k0.cell 1
      have f2 := k0.free 0
      have f3 := k0.free 1
      simp only [List.getElem?_toArray, List.getElem?_cons_zero, List.getElem?_cons_succ] at d0 d1
      clear k0 k1
      go_wp2
      simp [bodyPost, results, Tryd.results21, go_sem, d0, d1]
      exact ⟨_, rfl, hbg.out.set2 d0 (.bool neg) (.slice a l c), set2_below hbl (Nat.le_refl _) _ _⟩
end Go.Proofs.YtcfiemeknocgjaaDoor
