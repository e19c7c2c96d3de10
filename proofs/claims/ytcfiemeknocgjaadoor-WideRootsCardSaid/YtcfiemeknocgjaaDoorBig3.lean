/- The walk of gromaref01's more. Conditions: fewer than 2^29 digits. -/
import Derived.Test.YtcfiemeknocgjaaDoorBig2
namespace Go.Proofs.YtcfiemeknocgjaaDoor
open Go.RowKit

theorem info_int : (Tryd.prog.info? 3).map (fun i => (i.zero, i.size, i.bytes)) = some (some (.int .i64 0), 1, 8) := by kernel_rfl

/-- the digits as Go values -/
def dg (ds : List Int) : List Value := ds.map (Value.int .i64)
theorem dg_len (ds : List Int) : (dg ds).length = ds.length := List.length_map _
theorem dg_snoc (ds : List Int) (d : Int) : dg (ds ++ [d]) = dg ds ++ [.int .i64 d] := by unfold dg; rw [List.map_append]; rfl

theorem own_sl {w : World} {base n : Nat} {v : Value} {ds : List Int} (h : w.ownsRow base 3 1 v n (dg ds)) (hn : ds.length = n) (hl : n < 1073741824) :
    ∃ ao b cap, v = .slice ao ds.length cap ∧ Sl w ao b cap ds := by
  subst hn
  rcases h.2 with ⟨h1, h2⟩ | ⟨g, cap, cur, h1, h2, h3, h4, h5, h6, h7⟩
  · have : ds = [] := List.length_eq_zero_iff.1 h2
    subst this
    exact ⟨none, 0, 0, h1, ⟨fun h => absurd h (Nat.lt_irrefl 0), fun _ => rfl, Nat.le_refl _, by decide, by decide, fun i hi => absurd hi (Nat.not_lt_zero i), fun h => absurd h (Nat.lt_irrefl 0)⟩⟩
  · refine ⟨some ⟨g, 0, none⟩, g, cap, h1, ⟨fun _ => rfl, fun h => (by cases h), h4, hl, by unfold maxLen at h5; omega, fun i hi => ?_, fun _ => (Array.getElem?_eq_some_iff.1 h3).1⟩⟩
    subst h1
    rw [World.ownsRow.cellAt h i (by omega)]
    unfold dg
    simp [hi]

theorem dval_take_succ (ds : List Int) (k : Nat) : dval (ds.take (k + 1)) = dval (ds.take k) + P15 k * ds.getD k 0 := by
  rcases Nat.lt_or_ge k ds.length with h | h
  · rw [List.take_succ_eq_append_getElem h, dval_append, List.length_take, Nat.min_eq_left (by omega), getD_in' h]
    simp [dval]
  · rw [List.take_of_length_le (by omega), List.take_of_length_le h, getD_out h]; simp

/-- one round of more -/
theorem more_step {xs ys ds : List Int} {k : Nat} {cv x y : Int} (hx : x = xs.getD k 0) (hy : y = ys.getD k 0) (b1 : 0 ≤ x ∧ x < 32768) (b2 : 0 ≤ y ∧ y < 32768) (b3 : 0 ≤ cv ∧ cv ≤ 1)
    (h : DigOk ds ∧ ds.length = k ∧ dval ds + P15 k * cv = dval (xs.take k) + dval (ys.take k)) :
    (0 ≤ (cv + x + y) / 32768 ∧ (cv + x + y) / 32768 ≤ 1) ∧ DigOk (ds ++ [(cv + x + y) % 32768]) ∧ (ds ++ [(cv + x + y) % 32768]).length = k + 1 ∧
      dval (ds ++ [(cv + x + y) % 32768]) + P15 (k + 1) * ((cv + x + y) / 32768) = dval (xs.take (k + 1)) + dval (ys.take (k + 1)) := by
  obtain ⟨h1, h2, h3⟩ := h
  refine ⟨by omega, h1.append (DigOk.one (by omega)), by rw [List.length_append, h2]; rfl, ?_⟩
  rw [dval_append, h2, dval_take_succ, dval_take_succ, ← hx, ← hy, P15_succ]
  have e : P15 k * dval [(cv + x + y) % 32768] + 32768 * P15 k * ((cv + x + y) / 32768) = P15 k * (cv + x + y) := by
    have : dval [(cv + x + y) % 32768] = (cv + x + y) % 32768 := by simp [dval]
    rw [this, Int.mul_comm 32768 (P15 k), Int.mul_assoc, ← Int.mul_add, Int.emod_add_mul_ediv]
  rw [Int.mul_add, Int.mul_add] at e
  omega

/-- some slice of digits comes back -/
def GivesDig (w : World) (n : Int) (L : Nat) (e : Ending) (w' : World) : Prop :=
  ∃ (ao : Option Addr) (b cap : Nat) (ds : List Int), e = .returned (.slice ao ds.length cap) ∧ Sl w' ao b cap ds ∧ DigOk ds ∧ dval ds = n ∧ ds.length = L ∧ Below w.heap.size w w'

set_option maxRecDepth 100000 in
set_option maxHeartbeats 4000000 in
theorem more_any (ao bo : Option Addr) (b b' cap cap' : Nat) (xs ys : List Int) (w : World) (ha : Sl w ao b cap xs) (hb : Sl w bo b' cap' ys) (hl1 : xs.length < 536870912) (hl2 : ys.length < 536870912) (da : DigOk xs) (db : DigOk ys) :
    Calls Tryd.prog 46 #[.slice ao xs.length cap, .slice bo ys.length cap'] w (GivesDig w (dval xs + dval ys) (max xs.length ys.length + 1)) := by
  obtain ⟨i0, hi, hz0, hz1, hz2⟩ := info_parts info_int
  have HA := Lib.hid ha
  have HB := Lib.hid hb
  have D := Lib.hid (And.intro da db)
  have la := hl1
  have lb := hl2
  clear ha hb da db hl1 hl2
  obtain ⟨N, hN⟩ : ∃ N, N = xs.length := ⟨_, rfl⟩
  obtain ⟨M, hM⟩ : ∃ M, M = ys.length := ⟨_, rfl⟩
  have HN := Lib.hid hN
  have HM := Lib.hid hM
  rw [← hN] at la ⊢
  rw [← hM] at lb ⊢
  clear hN hM
  go_enter Tryd.func46, Tryd.ntmps46
  go_wp2_with fail
  go_loopw [5, 6, 7] (fun out c i wr => ∃ (k : Nat) (cv : Int) (ds : List Int), (k ≤ N ∨ k ≤ M) ∧ i = .int .i64 k ∧ c = .int .i64 cv ∧ 0 ≤ cv ∧ cv ≤ 1 ∧ wr.ownsRow w.heap.size 3 1 out k (dg ds) ∧
      Hid (DigOk ds ∧ ds.length = k ∧ dval ds + P15 k * cv = dval (xs.take k) + dval (ys.take k)) ∧ Below w.heap.size w wr) (fun _ _ i _ => N + M - (intOf i).toNat)
  case atStart => exact ⟨0, 0, [], .inl (Nat.zero_le _), rfl, rfl, by decide, by decide, World.ownsRow_nil _ _ _ _, ⟨DigOk.nil, rfl, by simp [dval]⟩, Below.refl _ _⟩
  case round =>
    rename_i wr
    obtain ⟨k, cv, ds, hk, rfl, rfl, cv0, cv1, hown, hds, hbl⟩ := hrel
    by_cases h1 : k < N
    · by_cases h2 : k < M
      · have ja : k < xs.length := by rw [← HN.out]; exact h1
        obtain rfl := HA.out.ptr (by omega)
        have e0 : wr.cell? ⟨b, k, none⟩ = some (.int .i64 (xs.getD k 0)) := by rw [hbl.cell (p := ⟨b, k, none⟩) (HA.out.blk (by omega))]; exact HA.out.cell k ja
        clear ja
        have jb : k < ys.length := by rw [← HM.out]; exact h2
        obtain rfl := HB.out.ptr (by omega)
        have e1 : wr.cell? ⟨b', k, none⟩ = some (.int .i64 (ys.getD k 0)) := by rw [hbl.cell (p := ⟨b', k, none⟩) (HB.out.blk (by omega))]; exact HB.out.cell k jb
        clear jb
        obtain ⟨x0, x1⟩ := D.out.1.get k
        obtain ⟨y0, y1⟩ := D.out.2.get k
        obtain ⟨x, hx⟩ : ∃ x, x = xs.getD k 0 := ⟨_, rfl⟩
        obtain ⟨y, hy⟩ : ∃ y, y = ys.getD k 0 := ⟨_, rfl⟩
        rw [← hx] at x0 x1 e0
        rw [← hy] at y0 y1 e1
        have hst := more_step hx hy ⟨x0, x1⟩ ⟨y0, y1⟩ ⟨cv0, cv1⟩ hds.out
        have ST := Lib.hid hst
        have HX := Lib.hid hx
        have HY := Lib.hid hy
        clear hst hx hy hds
        go_wp2_with (at_builtin; refine wpList_append_own _ rfl _ _ 32 rfl w.heap.size 3 i0 (.int .i64 0) 1 8 Tryd.underlying32 hi hz0 hz1 hz2 rfl (by decide) _ _ _ rfl (hown.alloc _) ⟨wr.heap.size, 0, none⟩ 1 1 [.int .i64 ((cv + x + y) % 32768)] rfl rfl ?c1 ?c2 ?c3 ?c4 ?c5 ?_)
        case c1 =>
          intro j u hj
          match j, hj with
          | 0, hj => simp at hj; subst hj; simp [Addr.add]
        case c2 => intro u hu; simp at hu; subst hu; rfl
        case c3 => unfold maxLen; omega
        case c4 => omega
        case c5 => have := hbl.size; simp; omega
        intro v' w1 hown' hgrow _
        have hb1 : Below w.heap.size w w1 := (hbl.alloc hbl.size _).grown hgrow (by have := hbl.size; simp; omega) (fun k hk => (hown.lt k hk).1)
        rw [← dg_snoc] at hown'
        clear hown hbl hgrow
        go_wp2
        go_roundw
        case rel => exact ⟨k + 1, (cv + x + y) / 32768, _, by omega, by go_num, rfl, ST.out.1.1, ST.out.1.2, hown', ST.out.2, hb1⟩
        case measure => simp [intOf]; omega
      · have ja : k < xs.length := by rw [← HN.out]; exact h1
        obtain rfl := HA.out.ptr (by omega)
        have e0 : wr.cell? ⟨b, k, none⟩ = some (.int .i64 (xs.getD k 0)) := by rw [hbl.cell (p := ⟨b, k, none⟩) (HA.out.blk (by omega))]; exact HA.out.cell k ja
        clear ja
        obtain ⟨x0, x1⟩ := D.out.1.get k
        obtain ⟨y0, y1⟩ := D.out.2.get k
        obtain ⟨x, hx⟩ : ∃ x, x = xs.getD k 0 := ⟨_, rfl⟩
        obtain ⟨y, hy⟩ : ∃ y, y = ys.getD k 0 := ⟨_, rfl⟩
        rw [← hx] at x0 x1 e0
        rw [← hy] at y0 y1
        have hst := more_step hx hy ⟨x0, x1⟩ ⟨y0, y1⟩ ⟨cv0, cv1⟩ hds.out
        have hy0 : y = 0 := hy.trans (getD_out (by rw [← HM.out]; omega))
        subst hy0
        simp only [Int.add_zero] at hst
        have ST := Lib.hid hst
        have HX := Lib.hid hx
        have HY := Lib.hid hy
        clear hst hx hy hds
        go_wp2_with (at_builtin; refine wpList_append_own _ rfl _ _ 32 rfl w.heap.size 3 i0 (.int .i64 0) 1 8 Tryd.underlying32 hi hz0 hz1 hz2 rfl (by decide) _ _ _ rfl (hown.alloc _) ⟨wr.heap.size, 0, none⟩ 1 1 [.int .i64 ((cv + x) % 32768)] rfl rfl ?c1 ?c2 ?c3 ?c4 ?c5 ?_)
        case c1 =>
          intro j u hj
          match j, hj with
          | 0, hj => simp at hj; subst hj; simp [Addr.add]
        case c2 => intro u hu; simp at hu; subst hu; rfl
        case c3 => unfold maxLen; omega
        case c4 => omega
        case c5 => have := hbl.size; simp; omega
        intro v' w1 hown' hgrow _
        have hb1 : Below w.heap.size w w1 := (hbl.alloc hbl.size _).grown hgrow (by have := hbl.size; simp; omega) (fun k hk => (hown.lt k hk).1)
        rw [← dg_snoc] at hown'
        clear hown hbl hgrow
        go_wp2
        go_roundw
        case rel => exact ⟨k + 1, (cv + x) / 32768, _, by omega, by go_num, rfl, ST.out.1.1, ST.out.1.2, hown', ST.out.2, hb1⟩
        case measure => simp [intOf]; omega
    · by_cases h2 : k < M
      · have jb : k < ys.length := by rw [← HM.out]; exact h2
        obtain rfl := HB.out.ptr (by omega)
        have e1 : wr.cell? ⟨b', k, none⟩ = some (.int .i64 (ys.getD k 0)) := by rw [hbl.cell (p := ⟨b', k, none⟩) (HB.out.blk (by omega))]; exact HB.out.cell k jb
        clear jb
        obtain ⟨x0, x1⟩ := D.out.1.get k
        obtain ⟨y0, y1⟩ := D.out.2.get k
        obtain ⟨x, hx⟩ : ∃ x, x = xs.getD k 0 := ⟨_, rfl⟩
        obtain ⟨y, hy⟩ : ∃ y, y = ys.getD k 0 := ⟨_, rfl⟩
        rw [← hx] at x0 x1
        rw [← hy] at y0 y1 e1
        have hst := more_step hx hy ⟨x0, x1⟩ ⟨y0, y1⟩ ⟨cv0, cv1⟩ hds.out
        have hx0 : x = 0 := hx.trans (getD_out (by rw [← HN.out]; omega))
        subst hx0
        rw [Int.add_zero] at hst
        have ST := Lib.hid hst
        have HX := Lib.hid hx
        have HY := Lib.hid hy
        clear hst hx hy hds
        go_wp2_with (at_builtin; refine wpList_append_own _ rfl _ _ 32 rfl w.heap.size 3 i0 (.int .i64 0) 1 8 Tryd.underlying32 hi hz0 hz1 hz2 rfl (by decide) _ _ _ rfl (hown.alloc _) ⟨wr.heap.size, 0, none⟩ 1 1 [.int .i64 ((cv + y) % 32768)] rfl rfl ?c1 ?c2 ?c3 ?c4 ?c5 ?_)
        case c1 =>
          intro j u hj
          match j, hj with
          | 0, hj => simp at hj; subst hj; simp [Addr.add]
        case c2 => intro u hu; simp at hu; subst hu; rfl
        case c3 => unfold maxLen; omega
        case c4 => omega
        case c5 => have := hbl.size; simp; omega
        intro v' w1 hown' hgrow _
        have hb1 : Below w.heap.size w w1 := (hbl.alloc hbl.size _).grown hgrow (by have := hbl.size; simp; omega) (fun k hk => (hown.lt k hk).1)
        rw [← dg_snoc] at hown'
        clear hown hbl hgrow
        go_wp2
        go_roundw
        case rel => exact ⟨k + 1, (cv + y) / 32768, _, by omega, by go_num, rfl, ST.out.1.1, ST.out.1.2, hown', ST.out.2, hb1⟩
        case measure => simp [intOf]; omega
      · have ST := Lib.hid hds.out
        clear hds
        go_wp2_with (at_builtin; refine wpList_append_own _ rfl _ _ 32 rfl w.heap.size 3 i0 (.int .i64 0) 1 8 Tryd.underlying32 hi hz0 hz1 hz2 rfl (by decide) _ _ _ rfl (hown.alloc _) ⟨wr.heap.size, 0, none⟩ 1 1 [.int .i64 cv] rfl rfl ?c1 ?c2 ?c3 ?c4 ?c5 ?_)
        case c1 =>
          intro j u hj
          match j, hj with
          | 0, hj => simp at hj; subst hj; simp [Addr.add]
        case c2 => intro u hu; simp at hu; subst hu; rfl
        case c3 => unfold maxLen; omega
        case c4 => omega
        case c5 => have := hbl.size; simp; omega
        intro v' w1 hown' hgrow _
        have hb1 : Below w.heap.size w w1 := (hbl.alloc hbl.size _).grown hgrow (by have := hbl.size; simp; omega) (fun k hk => (hown.lt k hk).1)
        rw [← dg_snoc] at hown'
        clear hown hbl hgrow
        go_wp2
        go_ret
        obtain ⟨g1, g2, g3⟩ := ST.out
        have gl : (ds ++ [cv]).length = k + 1 := by rw [List.length_append, g2]; rfl
        obtain ⟨ao2, b2, cap2, hv, hsl⟩ := own_sl hown' gl (by omega)
        refine ⟨ao2, b2, cap2, ds ++ [cv], ?_, hsl, g1.append (DigOk.one ⟨cv0, by omega⟩), ?_, ?_, hb1⟩
        · rw [← hv]; rfl
        · rw [dval_append, g2]
          have : dval [cv] = cv := by simp [dval]
          rw [this, g3, List.take_of_length_le (by rw [← HN.out]; omega), List.take_of_length_le (by rw [← HM.out]; omega)]
        · rw [gl]; omega
end Go.Proofs.YtcfiemeknocgjaaDoor
