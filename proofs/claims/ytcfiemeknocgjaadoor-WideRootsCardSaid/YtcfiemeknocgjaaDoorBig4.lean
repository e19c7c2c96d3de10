/- The walk of gromaref01's less. Conditions: fewer than 2^29 digits, the first size not the less. -/
import Derived.Test.YtcfiemeknocgjaaDoorBig3
namespace Go.Proofs.YtcfiemeknocgjaaDoor
open Go.RowKit

theorem one_new (w : World) (v : Value) (t : TypeId) : ∀ j u, [v][j]? = some u → (w.alloc (.cells #[v] t)).cell? ((⟨w.heap.size, 0, none⟩ : Addr).add j) = some u := by
  intro j u hj
  match j, hj with
  | 0, hj => simp at hj; subst hj; simp [Addr.add]
theorem one_cell (n : Int) : ∀ u ∈ [Value.int .i64 n], u.oneCell' = true := by intro u hu; simp at hu; subst hu; rfl

/-- one round of less -/
theorem less_step {xs ys ds : List Int} {k : Nat} {bw x y d c : Int} (hx : x = xs.getD k 0) (hy : y = ys.getD k 0) (hd : 0 ≤ d ∧ d < 32768) (hc : d - 32768 * c = x - bw - y)
    (h : DigOk ds ∧ ds.length = k ∧ dval ds - P15 k * bw = dval (xs.take k) - dval (ys.take k)) :
    DigOk (ds ++ [d]) ∧ (ds ++ [d]).length = k + 1 ∧ dval (ds ++ [d]) - P15 (k + 1) * c = dval (xs.take (k + 1)) - dval (ys.take (k + 1)) := by
  obtain ⟨h1, h2, h3⟩ := h
  refine ⟨h1.append (DigOk.one hd), by rw [List.length_append, h2]; rfl, ?_⟩
  rw [dval_append, h2, dval_take_succ, dval_take_succ, ← hx, ← hy, P15_succ]
  have e : P15 k * dval [d] - 32768 * P15 k * c = P15 k * (x - bw - y) := by
    have : dval [d] = d := by simp [dval]
    rw [this, ← hc, Int.mul_comm 32768 (P15 k), Int.mul_assoc, Int.mul_sub]
  rw [Int.mul_sub, Int.mul_sub] at e
  omega

set_option maxRecDepth 100000 in
set_option maxHeartbeats 4000000 in
theorem less_any (ao bo : Option Addr) (b b' cap cap' : Nat) (xs ys : List Int) (w : World) (ha : Sl w ao b cap xs) (hb : Sl w bo b' cap' ys) (hl1 : xs.length < 536870912) (da : DigOk xs) (db : DigOk ys) (hle : ys.length ≤ xs.length) (hge : dval ys ≤ dval xs) :
    Calls Tryd.prog 47 #[.slice ao xs.length cap, .slice bo ys.length cap'] w (GivesDig w (dval xs - dval ys) xs.length) := by
  obtain ⟨i0, hi, hz0, hz1, hz2⟩ := info_parts info_int
  have HA := Lib.hid ha
  have HB := Lib.hid hb
  have D := Lib.hid (And.intro da db)
  have G := Lib.hid hge
  have la := hl1
  clear ha hb da db hl1 hge
  obtain ⟨N, hN⟩ : ∃ N, N = xs.length := ⟨_, rfl⟩
  obtain ⟨M, hM⟩ : ∃ M, M = ys.length := ⟨_, rfl⟩
  have HN := Lib.hid hN
  have HM := Lib.hid hM
  rw [← hN] at la hle ⊢
  rw [← hM] at hle ⊢
  clear hN hM
  go_enter Tryd.func47, Tryd.ntmps47
  go_wp2_with fail
  go_loopw [5, 6, 7] (fun out c i wr => ∃ (k : Nat) (cv : Int) (ds : List Int), k ≤ N ∧ i = .int .i64 k ∧ c = .int .i64 cv ∧ 0 ≤ cv ∧ cv ≤ 1 ∧ wr.ownsRow w.heap.size 3 1 out k (dg ds) ∧
      Hid (DigOk ds ∧ ds.length = k ∧ dval ds - P15 k * cv = dval (xs.take k) - dval (ys.take k)) ∧ Below w.heap.size w wr) (fun _ _ i _ => N - (intOf i).toNat)
  case atStart => exact ⟨0, 0, [], Nat.zero_le _, rfl, rfl, by decide, by decide, World.ownsRow_nil _ _ _ _, ⟨DigOk.nil, rfl, by simp [dval]⟩, Below.refl _ _⟩
  case round =>
    rename_i wr
    obtain ⟨k, cv, ds, hk, rfl, rfl, cv0, cv1, hown, hds, hbl⟩ := hrel
    by_cases h1 : k < N
    · by_cases h2 : k < M
      · have ja : k < xs.length := by rw [← HN.out]; exact h1
        obtain rfl := HA.out.ptr (by omega)
        have e0 : wr.cell? ⟨b, k, none⟩ = some (.int .i64 (xs.getD k 0)) := by rw [hbl.cell (p := ⟨b, k, none⟩) (HA.out.blk (by omega))]; exact HA.out.cell k ja
        clear ja
        have jb : k < ys.length := by rw [← HM.out]; exact h2
        obtain rfl := HB.out.ptr (by omega)
        have e1 : wr.cell? ⟨b', k, none⟩ = some (.int .i64 (ys.getD k 0)) := by rw [hbl.cell (p := ⟨b', k, none⟩) (HB.out.blk (by omega))]; exact HB.out.cell k jb
        clear jb
        obtain ⟨x0, x1⟩ := D.out.1.get k
        obtain ⟨y0, y1⟩ := D.out.2.get k
        obtain ⟨x, hx⟩ : ∃ x, x = xs.getD k 0 := ⟨_, rfl⟩
        obtain ⟨y, hy⟩ : ∃ y, y = ys.getD k 0 := ⟨_, rfl⟩
        rw [← hx] at x0 x1 e0
        rw [← hy] at y0 y1 e1
        by_cases hneg : x - cv - y < 0
        · have hst := less_step (d := x - cv - y + 32768) (c := 1) hx hy (by omega) (by omega) hds.out
          have ST := Lib.hid hst
          have HX := Lib.hid hx
          have HY := Lib.hid hy
          clear hst hx hy hds
          go_wp2_with (at_builtin; refine wpList_append_own _ rfl _ _ 32 rfl w.heap.size 3 i0 (.int .i64 0) 1 8 Tryd.underlying32 hi hz0 hz1 hz2 rfl (by decide) _ _ _ rfl (hown.alloc _) ⟨wr.heap.size, 0, none⟩ 1 1 [.int .i64 (x - cv - y + 32768)] rfl rfl (one_new _ _ _) (one_cell _) (by unfold maxLen; omega) (by omega) (by have := hbl.size; simp; omega) ?_; intro v' w1 hown' hgrow _)
          have hb1 : Below w.heap.size w w1 := (hbl.alloc hbl.size _).grown hgrow (by have := hbl.size; simp; omega) (fun k hk => (hown.lt k hk).1)
          rw [← dg_snoc] at hown'
          clear hown hbl hgrow
          go_wp2
          go_roundw
          case rel => exact ⟨k + 1, 1, _, by omega, by go_num, rfl, by decide, by decide, hown', ST.out, hb1⟩
          case measure => simp [intOf]; omega
        · have hst := less_step (d := x - cv - y) (c := 0) hx hy (by omega) (by omega) hds.out
          have ST := Lib.hid hst
          have HX := Lib.hid hx
          have HY := Lib.hid hy
          clear hst hx hy hds
          go_wp2_with (at_builtin; refine wpList_append_own _ rfl _ _ 32 rfl w.heap.size 3 i0 (.int .i64 0) 1 8 Tryd.underlying32 hi hz0 hz1 hz2 rfl (by decide) _ _ _ rfl (hown.alloc _) ⟨wr.heap.size, 0, none⟩ 1 1 [.int .i64 (x - cv - y)] rfl rfl (one_new _ _ _) (one_cell _) (by unfold maxLen; omega) (by omega) (by have := hbl.size; simp; omega) ?_; intro v' w1 hown' hgrow _)
          have hb1 : Below w.heap.size w w1 := (hbl.alloc hbl.size _).grown hgrow (by have := hbl.size; simp; omega) (fun k hk => (hown.lt k hk).1)
          rw [← dg_snoc] at hown'
          clear hown hbl hgrow
          go_wp2
          go_roundw
          case rel => exact ⟨k + 1, 0, _, by omega, by go_num, rfl, by decide, by decide, hown', ST.out, hb1⟩
          case measure => simp [intOf]; omega
      · have ja : k < xs.length := by rw [← HN.out]; exact h1
        obtain rfl := HA.out.ptr (by omega)
        have e0 : wr.cell? ⟨b, k, none⟩ = some (.int .i64 (xs.getD k 0)) := by rw [hbl.cell (p := ⟨b, k, none⟩) (HA.out.blk (by omega))]; exact HA.out.cell k ja
        clear ja
        obtain ⟨x0, x1⟩ := D.out.1.get k
        obtain ⟨y0, y1⟩ := D.out.2.get k
        obtain ⟨x, hx⟩ : ∃ x, x = xs.getD k 0 := ⟨_, rfl⟩
        obtain ⟨y, hy⟩ : ∃ y, y = ys.getD k 0 := ⟨_, rfl⟩
        rw [← hx] at x0 x1 e0
        rw [← hy] at y0 y1
        have hy0 : y = 0 := hy.trans (getD_out (by rw [← HM.out]; omega))
        subst hy0
        by_cases hneg : x - cv < 0
        · have hst := less_step (d := x - cv + 32768) (c := 1) hx hy (by omega) (by omega) hds.out
          have ST := Lib.hid hst
          have HX := Lib.hid hx
          have HY := Lib.hid hy
          clear hst hx hy hds
          go_wp2_with (at_builtin; refine wpList_append_own _ rfl _ _ 32 rfl w.heap.size 3 i0 (.int .i64 0) 1 8 Tryd.underlying32 hi hz0 hz1 hz2 rfl (by decide) _ _ _ rfl (hown.alloc _) ⟨wr.heap.size, 0, none⟩ 1 1 [.int .i64 (x - cv + 32768)] rfl rfl (one_new _ _ _) (one_cell _) (by unfold maxLen; omega) (by omega) (by have := hbl.size; simp; omega) ?_; intro v' w1 hown' hgrow _)
          have hb1 : Below w.heap.size w w1 := (hbl.alloc hbl.size _).grown hgrow (by have := hbl.size; simp; omega) (fun k hk => (hown.lt k hk).1)
          rw [← dg_snoc] at hown'
          clear hown hbl hgrow
          go_wp2
          go_roundw
          case rel => exact ⟨k + 1, 1, _, by omega, by go_num, rfl, by decide, by decide, hown', ST.out, hb1⟩
          case measure => simp [intOf]; omega
        · have hst := less_step (d := x - cv) (c := 0) hx hy (by omega) (by omega) hds.out
          have ST := Lib.hid hst
          have HX := Lib.hid hx
          have HY := Lib.hid hy
          clear hst hx hy hds
          go_wp2_with (at_builtin; refine wpList_append_own _ rfl _ _ 32 rfl w.heap.size 3 i0 (.int .i64 0) 1 8 Tryd.underlying32 hi hz0 hz1 hz2 rfl (by decide) _ _ _ rfl (hown.alloc _) ⟨wr.heap.size, 0, none⟩ 1 1 [.int .i64 (x - cv)] rfl rfl (one_new _ _ _) (one_cell _) (by unfold maxLen; omega) (by omega) (by have := hbl.size; simp; omega) ?_; intro v' w1 hown' hgrow _)
          have hb1 : Below w.heap.size w w1 := (hbl.alloc hbl.size _).grown hgrow (by have := hbl.size; simp; omega) (fun k hk => (hown.lt k hk).1)
          rw [← dg_snoc] at hown'
          clear hown hbl hgrow
          go_wp2
          go_roundw
          case rel => exact ⟨k + 1, 0, _, by omega, by go_num, rfl, by decide, by decide, hown', ST.out, hb1⟩
          case measure => simp [intOf]; omega
    · have ST := Lib.hid hds.out
      clear hds
      go_wp2
      go_ret
      obtain ⟨g1, g2, g3⟩ := ST.out
      obtain ⟨ao2, b2, cap2, hv, hsl⟩ := own_sl hown g2 (by omega)
      have hkN : k = xs.length := by rw [← HN.out]; omega
      rw [List.take_of_length_le (by omega), List.take_of_length_le (by rw [← HM.out]; omega)] at g3
      have hbd := dval_bd g1
      rw [g2] at hbd
      have hge := G.out
      have hc : cv = 0 := by
        rcases (show cv = 0 ∨ cv = 1 by omega) with h | h
        · exact h
        · rw [h, Int.mul_one] at g3; omega
      rw [hc, Int.mul_zero, Int.sub_zero] at g3
      exact ⟨ao2, b2, cap2, ds, by rw [← hv]; rfl, hsl, g1, g3, by omega, hbl⟩
end Go.Proofs.YtcfiemeknocgjaaDoor
