/- The walk of gromaref01's Mul. Conditions: fewer than 2^28 digits. -/
import Derived.Test.YtcfiemeknocgjaaDoorBig10
import Derived.Deep.OwnRows
namespace Go.Proofs.YtcfiemeknocgjaaDoor
open Go.RowKit

theorem dg_get {ds : List Int} {j : Nat} (h : j < ds.length) : (dg ds).toArray[j]? = some (.int .i64 (ds.getD j 0)) := by
  unfold dg; simp [h]
theorem dg_put (ds : List Int) (j : Nat) (v : Int) : (dg ds).toArray.setIfInBounds j (.int .i64 v) = (dg (ds.set j v)).toArray := by
  unfold dg; rw [List.setIfInBounds_toArray, List.map_set]
theorem dg_zero (n : Nat) : madeCells #[.int .i64 0] n = (dg (List.replicate n 0)).toArray := by
  unfold dg; rw [List.map_replicate, ← toList_madeCells_one]

/-- where the product stands -/
structure MulAt (w : World) (v1 v2 : Array Value) (out : List Int) (n : Nat) (wr : World) : Prop where
  k0 : Blk wr w.heap.size v1 34
  k1 : Blk wr (w.heap.size + 1) v2 34
  k2 : Blk wr (w.heap.size + 1 + 1) #[.bool false, .slice none 0 0] 34
  k3 : Blk wr (w.heap.size + 1 + 1 + 1) (dg out).toArray 3
  len : out.length = n
  below : Below w.heap.size w wr
theorem MulAt.drew {w : World} {v1 v2 : Array Value} {out : List Int} {n : Nat} {wr : World} (h : MulAt w v1 v2 out n wr) : MulAt w v1 v2 out n wr.drew := ⟨h.k0, h.k1, h.k2, h.k3, h.len, h.below.drew⟩
theorem MulAt.put {w : World} {v1 v2 : Array Value} {out : List Int} {n : Nat} {wr : World} (h : MulAt w v1 v2 out n wr) (j : Nat) (v : Int) : MulAt w v1 v2 (out.set j v) n (wr.setCell ⟨w.heap.size + 1 + 1 + 1, j, none⟩ (.int .i64 v)) :=
  ⟨h.k0.set (by omega) _ _ _, h.k1.set (by omega) _ _ _, h.k2.set (by omega) _ _ _, by rw [← dg_put]; exact Blk.put h.k3 _ _, by rw [List.length_set]; exact h.len, h.below.setCell (by show _ ≤ w.heap.size + 1 + 1 + 1; omega) _⟩
theorem MulAt.outc {w : World} {v1 v2 : Array Value} {out : List Int} {n : Nat} {wr : World} (h : MulAt w v1 v2 out n wr) {j : Nat} (hj : j < n) : wr.cell? ⟨w.heap.size + 1 + 1 + 1, j, none⟩ = some (.int .i64 (out.getD j 0)) := by
  rw [h.k3.cell]; exact dg_get (by rw [h.len]; exact hj)

set_option maxRecDepth 100000 in
set_option maxHeartbeats 2000000 in
theorem bigMul_go (neg neg' : Bool) (ao bo : Option Addr) (b b' cap cap' : Nat) (xs ys : List Int) (w : World) (ha : Sl w ao b cap xs) (hb : Sl w bo b' cap' ys) (da : DigOk xs) (db : DigOk ys)
    (hl1 : xs.length < 268435456) (hl2 : ys.length < 268435456) :
    Calls Tryd.prog 25 #[.agg #[.bool neg, .slice ao xs.length cap], .agg #[.bool neg', .slice bo ys.length cap']] w
      (GivesBig w (bif neg != neg' then -(dval xs * dval ys) else dval xs * dval ys) (xs.length + ys.length + 1)) := by
  have HA := Lib.hid ha
  have HB := Lib.hid hb
  have D := Lib.hid (And.intro da db)
  have la := hl1
  have lb := hl2
  clear ha hb da db hl1 hl2
  obtain ⟨N, hN⟩ : ∃ N, N = xs.length := ⟨_, rfl⟩
  obtain ⟨M, hM⟩ : ∃ M, M = ys.length := ⟨_, rfl⟩
  have HN := Lib.hid hN
  have HM := Lib.hid hM
  rw [← hN] at la ⊢
  rw [← hM] at lb ⊢
  clear hN hM
  have hmk := run_make_row' (P := Tryd.prog) 32 3 (.int .i64 0) 8 Tryd.underlying32 info_int rfl .i64 .i64 (N + M + 1) (by omega) (by omega)
  have e1 : ((N + M + 1 : Nat) : Int) = (N : Int) + (M : Int) + 1 := by omega
  rw [e1, dg_zero] at hmk
  clear e1
  go_enter Tryd.func25, Tryd.ntmps25
  go_wp2_with fail
  clear hmk
  refine name_world ?_
  intro W hW
  have hd0 : MulAt w #[.bool neg, .slice ao N cap] #[.bool neg', .slice bo M cap'] (List.replicate (N + M + 1) 0) (N + M + 1) W := by
    rw [hW]
    exact ⟨((Blk.new _ _ _).alloc _).alloc _ |>.alloc _, ((Blk.new1 _ _ _ _).alloc _).alloc _, (Blk.new2 _ _ _ _ _).alloc _, Blk.new3 _ _ _ _ _ _, List.length_replicate .., (below_a3 _ _ _ _).alloc (by simp; omega) _⟩
  clear hW
  go_loopw [6] (fun i wr => ∃ (k : Nat) (out : List Int), k ≤ N ∧ i = .int .i64 k ∧ Hid (Prd xs ys (N + M + 1) k 0 out 0) ∧ MulAt w #[.bool neg, .slice ao N cap] #[.bool neg', .slice bo M cap'] out (N + M + 1) wr) (fun i _ => N - (intOf i).toNat)
  case atStart => exact ⟨0, _, Nat.zero_le _, rfl, Prd.zero _ _ _, hd0⟩
  case round =>
    clear hd0 W
    rename_i wr
    obtain ⟨i, out, hi, rfl, hp, hd⟩ := hrel
    have c0 := hd.k0.cell 1
    have c1 := hd.k1.cell 1
    simp only [List.getElem?_toArray, List.getElem?_cons_zero, List.getElem?_cons_succ] at c0 c1
    by_cases h1 : i < N
    · have HD := Lib.hid hd
      clear hd
      go_wp2_with fail
      obtain ⟨wo, rfl⟩ : ∃ wo : World, wo = wr := ⟨_, rfl⟩
      have hd := HD.out
      clear c0 c1 HD
      go_loopw [7, 8] (fun c k wr => ∃ (j : Nat) (cv : Int) (out : List Int), j ≤ M ∧ k = .int .i64 j ∧ c = .int .i64 cv ∧ 0 ≤ cv ∧ cv ≤ 32767 ∧ Hid (Prd xs ys (N + M + 1) i j out cv) ∧ MulAt w #[.bool neg, .slice ao N cap] #[.bool neg', .slice bo M cap'] out (N + M + 1) wr) (fun _ k _ => M - (intOf k).toNat)
      case atStart => exact ⟨0, 0, out, Nat.zero_le _, rfl, rfl, by decide, by decide, hp, hd⟩
      case round =>
        clear hd hp
        rename World => wi
        obtain ⟨j, cv, out, hj, rfl, rfl, cv0, cv1, hp, hd⟩ := hrel
        have c0 := hd.k0.cell 1
        have c1 := hd.k1.cell 1
        simp only [List.getElem?_toArray, List.getElem?_cons_zero, List.getElem?_cons_succ] at c0 c1
        by_cases h2 : j < M
        · have ja : i < xs.length := by rw [← HN.out]; exact h1
          obtain rfl := HA.out.ptr (by omega)
          have e0 : wi.cell? ⟨b, i, none⟩ = some (.int .i64 (xs.getD i 0)) := by rw [hd.below.cell (p := ⟨b, i, none⟩) (HA.out.blk (by omega))]; exact HA.out.cell i ja
          have lb0 : b < wi.heap.size := Nat.lt_of_lt_of_le (HA.out.blk (by omega)) hd.below.size
          clear ja
          have jb : j < ys.length := by rw [← HM.out]; exact h2
          obtain rfl := HB.out.ptr (by omega)
          have e1 : wi.cell? ⟨b', j, none⟩ = some (.int .i64 (ys.getD j 0)) := by rw [hd.below.cell (p := ⟨b', j, none⟩) (HB.out.blk (by omega))]; exact HB.out.cell j jb
          have lb1 : b' < wi.heap.size := Nat.lt_of_lt_of_le (HB.out.blk (by omega)) hd.below.size
          have hst := fun (x y a : Int) (hx : x = xs.getD i 0) (hy : y = ys.getD j 0) (ha : a = out.getD (i + j) 0) => hp.out.step D.out.1 D.out.2 jb (by rw [← HM.out]; omega) hx hy ha
          clear jb
          have e2 := hd.outc (j := i + j) (by omega)
          obtain ⟨x0, x1⟩ := D.out.1.get i
          obtain ⟨y0, y1⟩ := D.out.2.get j
          obtain ⟨a0, a1⟩ := hp.out.ok.get (i + j)
          obtain ⟨x, hx⟩ : ∃ x, x = xs.getD i 0 := ⟨_, rfl⟩
          obtain ⟨y, hy⟩ : ∃ y, y = ys.getD j 0 := ⟨_, rfl⟩
          obtain ⟨a, ha⟩ : ∃ a, a = out.getD (i + j) 0 := ⟨_, rfl⟩
          have ST := Lib.hid (hst x y a hx hy ha)
          clear hst
          rw [← hx] at x0 x1 e0
          rw [← hy] at y0 y1 e1
          rw [← ha] at a0 a1 e2
          clear hx hy ha
          obtain ⟨n0, n1, n2, n3⟩ := prd_n ⟨a0, a1⟩ ⟨x0, x1⟩ ⟨y0, y1⟩ ⟨cv0, cv1⟩
          have f3 := hd.k3.free (i + j)
          have HD := Lib.hid hd
          clear hd hp
          go_wp2_with fail
          refine name_world ?_
          intro W hW
          subst hW
          have lw := HD.out.k0.lt
          have lw1 := HD.out.k1.lt
          have lw3 := HD.out.k3.lt
          refine wp_region_up W.heap.size 19 [(true, 0), (true, 1), (true, 2), (true, 3), (true, 4), (true, 5), (true, 6), (true, 7), (true, 8), (true, 9), (true, 10), (true, 11), (true, 12), (true, 13), (true, 14), (true, 15), (true, 16), (true, 17), (true, 18)] (by kernel_rfl) (by kernel_rfl) (fun _ _ d _ _ h => by cases d <;> exact h) ?_
          have hb : Below W.heap.size W W.drew := (Below.refl _ _).drew
          iterate 19
            refine wpS_takeL rfl rfl ?_
            go_big_quiet_step (rfl)
            refine wpQuiet_nil ?_
          refine wpS_nil ?_
          simp only [List.drop_succ_cons, List.drop_zero]
          clear c0 c1 e0 e1 lw lw1 lw3 lb0 lb1
          go_wp2
          go_roundw
          case rel => exact ⟨j + 1, (a + x * y + cv) / 32768, _, by omega, by go_num, rfl, n2, n3, ST.out, HD.out.drew.put _ _⟩
          case measure => simp [intOf]; omega
        · have hjm : j = M := by omega
          subst hjm
          have e2 := hd.outc (j := i + j) (by omega)
          obtain ⟨a0, a1⟩ := hp.out.ok.get (i + j)
          obtain ⟨a, ha⟩ : ∃ a, a = out.getD (i + j) 0 := ⟨_, rfl⟩
          have hst : Prd xs ys (N + j + 1) (i + 1) 0 (out.set (i + j) (a + cv)) 0 := by
            have e := HM.out
            subst e
            exact hp.out.row (by omega) ha
          rw [← ha] at a0 a1 e2
          have ST := Lib.hid hst
          have f3 := hd.k3.free (i + j)
          have HD := Lib.hid hd
          clear hd hp hst ha
          go_wp2
          go_roundw
          case rel => exact ⟨i + 1, _, by omega, by go_num, ST.out, HD.out.put _ _⟩
          case measure => simp [intOf]; omega
    · have hin : i = N := by omega
      have hp2 : DigOk out ∧ dval out = dval xs * dval ys := by
        have e := hin.trans HN.out
        subst e
        exact hp.out.all rfl
      have HP := Lib.hid hp2
      have hlen := hd.len
      have d2 := hd.k0.cell 0
      have d3 := hd.k1.cell 0
      simp only [List.getElem?_toArray, List.getElem?_cons_zero] at d2 d3
      have hlo : Sl wr (some ⟨w.heap.size + 1 + 1 + 1, 0, none⟩) (w.heap.size + 1 + 1 + 1) (N + M + 1) out := by
        refine ⟨fun _ => rfl, fun h => (by cases h), by omega, by omega, by omega, fun k hk => ?_, fun _ => hd.k3.lt⟩
        rw [hlen] at hk
        exact hd.outc hk
      have SL := Lib.hid hlo
      have HL := Lib.hid hlen
      have HD := Lib.hid hd
      clear hp2 hp hin hlen hlo hd
      go_wp2_with fail
      have T := trim_any (!neg == neg') (some ⟨w.heap.size + 1 + 1 + 1, 0, none⟩) (w.heap.size + 1 + 1 + 1) (N + M + 1) out wr SL.out HP.out.1 (N + M + 1) (Nat.le_of_eq HL.out)
      rw [HL.out, HP.out.2] at T
      refine T.mono ?_
      clear T
      rintro e w3 ⟨v3, rfl, hbig, hn⟩
      have HBG := Lib.hid hbig
      have hvv := hbig.shape
      clear hbig
      obtain ⟨n3, a3, q3, c3, rfl⟩ := hvv
      have k2 := HD.out.k2.of hn
      have hb2 := HD.out.below.trans (hn.mono HD.out.below.size)
      have d4 := k2.cell 0
      have d5 := k2.cell 1
      have f4 := k2.free 0
      have f5 := k2.free 1
      simp only [List.getElem?_toArray, List.getElem?_cons_zero, List.getElem?_cons_succ] at d4 d5
      clear hn k2 c0 c1 d2 d3
      go_wp2
      simp [bodyPost, results, Tryd.results25, go_sem, d4, d5]
      refine ⟨_, rfl, ?_, set2_below hb2 (by omega) _ _⟩
      have hx : (!neg == neg') = (neg != neg') := by cases neg <;> cases neg' <;> rfl
      rw [← hx]
      exact HBG.out.set2 d4 (.bool n3) (.slice a3 q3 c3)

theorem bigMul_any (v v' : Value) (n m : Int) (L L' : Nat) (w : World) (h : Big w v n L) (h' : Big w v' m L') (hL : L + L' < 268435456) :
    Calls Tryd.prog 25 #[v, v'] w (GivesBig w (n * m) (L + L')) := by
  obtain ⟨neg, ao, b, cap, ds, rfl, hs, hd, hn, hz, hv, hl⟩ := h
  obtain ⟨neg', ao', b', cap', ds', rfl, hs', hd', hn', hz', hv', hl'⟩ := h'
  refine (bigMul_go neg neg' ao ao' b b' cap cap' ds ds' w hs hs' hd hd' (by omega) (by omega)).mono ?_
  intro e w2 hg
  have hx : n * m = (bif neg != neg' then -(dval ds * dval ds') else dval ds * dval ds') := by
    rw [hv, hv']; cases neg <;> cases neg' <;> simp [Int.neg_mul, Int.mul_neg]
  rw [hx]
  refine hg.fit ?_
  have h1 := dval_bd hd
  have h2 := dval_bd hd'
  have h3 : 0 ≤ dval ds * dval ds' := Int.mul_nonneg h1.1 h2.1
  have h4 : dval ds * dval ds' < P15 (L + L') := by
    have g1 := P15_le hl
    have g2 := P15_le hl'
    rw [P15_add]
    have g3 : dval ds * dval ds' ≤ (P15 L - 1) * (P15 L' - 1) := Int.mul_le_mul (by omega) (by omega) h2.1 (by have := P15_pos L; omega)
    have g4 : (P15 L - 1) * (P15 L' - 1) = P15 L * P15 L' - P15 L - P15 L' + 1 := by rw [Int.sub_mul, Int.mul_sub]; omega
    have := P15_pos L; have := P15_pos L'
    omega
  cases neg <;> cases neg' <;> simp <;> omega
end Go.Proofs.YtcfiemeknocgjaaDoor
