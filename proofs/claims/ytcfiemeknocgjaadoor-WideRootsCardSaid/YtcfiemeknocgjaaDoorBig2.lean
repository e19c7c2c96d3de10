/- The walk of gromaref01's trim. Conditions: fewer than 2^30 digits. -/
import Derived.Test.YtcfiemeknocgjaaDoorBig1
namespace Go.Proofs.YtcfiemeknocgjaaDoor
open Go.RowKit

theorem Sl.cut {w : World} {b cap : Nat} {ds : List Int} (h : Sl w (some ⟨b, 0, none⟩) b cap ds) {j : Nat} (hj : j < ds.length) : Sl w (some ⟨b, 0, none⟩) b cap (ds.take (j + 1)) := by
  have hl : (ds.take (j + 1)).length = j + 1 := by rw [List.length_take]; omega
  have h1 := h.capl
  have h2 := h.len
  refine ⟨fun _ => rfl, fun h => (by cases h), by omega, by omega, h.capb, fun i hi => ?_, fun _ => h.blk (by omega)⟩
  rw [hl] at hi
  rw [h.cell i (by omega)]
  simp [hi]
theorem Sl.below {w w' : World} {ao : Option Addr} {b cap : Nat} {ds : List Int} (h : Sl w ao b cap ds) (hb : Below w.heap.size w w') : Sl w' ao b cap ds := h.of hb

set_option maxRecDepth 100000 in
set_option maxHeartbeats 1000000 in
theorem trim_any (neg : Bool) (ao : Option Addr) (b cap : Nat) (ds : List Int) (w : World) (hs : Sl w ao b cap ds) (hd : DigOk ds) (L : Nat) (hL : ds.length ≤ L) :
    Calls Tryd.prog 45 #[.agg #[.bool neg, .slice ao ds.length cap]] w (GivesBig w (bif neg then -dval ds else dval ds) L) := by
  have HS := Lib.hid hs
  have HD := Lib.hid hd
  have HL := Lib.hid hL
  have ll := hs.len
  have cl := hs.capl
  have cb := hs.capb
  clear hs hd hL
  obtain ⟨N, hN⟩ : ∃ N, N = ds.length := ⟨_, rfl⟩
  have HN := Lib.hid hN
  rw [← hN] at ll cl ⊢
  clear hN
  go_enter Tryd.func45, Tryd.ntmps45
  go_wp2_with fail
  refine name_world ?_
  intro W hW
  have k0 : Blk W w.heap.size #[.bool neg, .slice ao N cap] 34 := by rw [hW]; exact (Blk.new _ _ _).alloc _
  have k1 : Blk W (w.heap.size + 1) #[.bool false, .slice none 0 0] 34 := by rw [hW]; exact Blk.new1 _ _ _ _
  have hb0 : Below w.heap.size w W := by rw [hW]; (repeat (first | exact Below.refl _ _ | refine below_drewN ?_ _ | refine Below.drew ?_ | refine Below.alloc ?_ (by simp) _ | refine Below.alloc ?_ (by simp; omega) _))
  clear hW
  have c0 := k0.cell 0
  have c1 := k0.cell 1
  simp only [List.getElem?_toArray, List.getElem?_cons_zero, List.getElem?_cons_succ] at c0 c1
  have d0 := k1.cell 0
  have d1 := k1.cell 1
  have f0 := k1.free 0
  have f1 := k1.free 1
  simp only [List.getElem?_toArray, List.getElem?_cons_zero, List.getElem?_cons_succ] at d0 d1
  have K0 := Lib.hid k0
  have K1 := Lib.hid k1
  have l0 := k0.lt
  clear k0 k1
  go_loopw [3] (fun i wr => ∃ k : Nat, k ≤ N ∧ i = .int .i64 k ∧ Hid (dval (ds.take k) = dval ds) ∧ W = wr) (fun i _ => (intOf i).toNat)
  case atStart => exact ⟨N, Nat.le_refl _, rfl, (by rw [List.take_of_length_le (by rw [HN.out]; exact Nat.le_refl _)] : dval (ds.take N) = dval ds), rfl⟩
  case round =>
    rename_i i0 wr
    obtain ⟨k, hk, rfl, hd, rfl⟩ := hrel
    cases k with
    | zero =>
      have hz : dval ds = 0 := by have := hd.out; rw [List.take_zero] at this; exact this.symm
      have HZ := Lib.hid hz
      clear hz hd
      go_wp2
      simp [bodyPost, results, Tryd.results45, go_sem, d0, d1]
      refine ⟨_, rfl, ?_, ?_⟩
      · have e : (bif neg then -dval ds else dval ds) = 0 := by rw [HZ.out]; cases neg <;> rfl
        rw [e]; exact Big.zero _ _
      · refine Below.setCell (Below.setCell hb0 ?_ _) ?_ _ <;> exact Nat.le_succ _
    | succ j =>
      have ja : j < ds.length := by rw [← HN.out]; omega
      obtain rfl := HS.out.ptr (by omega)
      have ba := HS.out.blk (by omega)
      have e0 : W.cell? ⟨b, j, none⟩ = some (.int .i64 (ds.getD j 0)) := by rw [hb0.cell (p := ⟨b, j, none⟩) ba]; exact HS.out.cell j ja
      obtain ⟨x, hx⟩ : ∃ x, x = ds.getD j 0 := ⟨_, rfl⟩
      rw [← hx] at e0
      have HX := Lib.hid hx
      have JA := Lib.hid ja
      clear hx ja ba
      have e1 : ((j + 1 : Nat) : Int) - 1 = (j : Int) := by omega
      by_cases hx0 : x = 0
      · subst hx0
        go_wp2
        go_roundw
        case rel => exact ⟨j, by omega, by go_num, dval_take_zero JA.out HX.out.symm hd.out, trivial⟩
        case measure => simp [intOf]
      · have hx1 : (x == 0) = false := by simpa using hx0
        have HX0 := Lib.hid hx0
        clear hx0
        go_wp2_with fail
        have D0 := Lib.hid d0
        have D1 := Lib.hid d1
        clear d0 d1
        have hj1 : (0 : Int) ≤ ((j + 1 : Nat) : Int) := by omega
        refine wp_region_up W.heap.size 6 [(true, 0), (true, 1), (true, 2), (true, 3), (true, 4), (true, 5)] (by kernel_rfl) (by kernel_rfl) (fun _ _ d _ _ h => by cases d <;> exact h) ?_
        have hb : Below W.heap.size W W.drew := (Below.refl _ _).drew
        iterate 6
          refine wpS_takeL rfl rfl ?_
          go_big_quiet_step (rfl)
          refine wpQuiet_nil ?_
        refine wpS_nil ?_
        simp only [List.drop_succ_cons, List.drop_zero]
        have d0 := D0.out
        have d1 := D1.out
        go_wp2
        simp [bodyPost, results, Tryd.results45, go_sem, d0, d1]
        have hbl : Below w.heap.size w ((W.setCell ⟨w.heap.size + 1, 0, none⟩ (.bool neg)).setCell ⟨w.heap.size + 1, 1, none⟩ (.slice (some ⟨b, 0, none⟩) (j + 1) cap)).drew := by
          refine (Below.setCell (Below.setCell hb0 ?_ _) ?_ _).drew <;> exact Nat.le_succ _
        have hlen : (ds.take (j + 1)).length = j + 1 := by rw [List.length_take]; have := JA.out; omega
        refine ⟨_, rfl, ⟨neg, some ⟨b, 0, none⟩, b, cap, ds.take (j + 1), by rw [hlen], ?_, HD.out.take _, .inr ?_, fun h => ?_, by rw [hd.out], ?_⟩, hbl⟩
        · exact (HS.out.of hbl).cut JA.out
        · rw [hlen]
          have := HX0.out
          rw [HX.out] at this
          simpa [List.getElem?_take] using this
        · rw [h] at hlen; simp at hlen
        · rw [hlen]; have := HL.out; have := JA.out; omega
end Go.Proofs.YtcfiemeknocgjaaDoor
