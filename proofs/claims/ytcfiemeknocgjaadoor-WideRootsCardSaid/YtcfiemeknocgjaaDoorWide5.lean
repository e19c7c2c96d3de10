/- The walk of package wide's long division. Conditions: both are sizes, the divisor is not 0. -/
import Derived.Test.YtcfiemeknocgjaaDoorWide4
import Derived.Test.YtcfiemeknocgjaaDoorNum2
namespace Go.Proofs.YtcfiemeknocgjaaDoor
open Go.RowKit

/-- where the division stands: the quotient and the rest so far -/
structure DivAt (w : World) (a b q r : Int) (wr : World) : Prop where
  va : Var wr w.heap.size a
  vb : Var wr (w.heap.size + 1) b
  vq : Var wr (w.heap.size + 1 + 1) q
  vr : Var wr (w.heap.size + 1 + 1 + 1) r
  below : Below w.heap.size w wr
theorem DivAt.of {w : World} {a b q r : Int} {wr w' : World} (h : DivAt w a b q r wr) (hn : Below wr.heap.size wr w') : DivAt w a b q r w' :=
  ⟨h.va.of hn, h.vb.of hn, h.vq.of hn, h.vr.of hn, h.below.trans (hn.mono h.below.size)⟩
theorem DivAt.setr {w : World} {a b q r : Int} {wr : World} (h : DivAt w a b q r wr) (y : Int) : DivAt w a b q y
    ((((wr.setCell ⟨w.heap.size + 1 + 1 + 1, 0, none⟩ (.int .u64 (wd0 y))).setCell ⟨w.heap.size + 1 + 1 + 1, 1, none⟩ (.int .u64 (wd1 y))).setCell ⟨w.heap.size + 1 + 1 + 1, 2, none⟩ (.int .u64 (wd2 y))).setCell ⟨w.heap.size + 1 + 1 + 1, 3, none⟩ (.int .u64 (wd3 y))) :=
  ⟨h.va.set4 (by omega) _ _ _ _, h.vb.set4 (by omega) _ _ _ _, h.vq.set4 (by omega) _ _ _ _, Var.put4 h.vr y, below_set4 h.below (by omega) _ _ _ _⟩
theorem DivAt.setq {w : World} {a b q r : Int} {wr : World} (h : DivAt w a b q r wr) (y : Int) : DivAt w a b y r
    ((((wr.setCell ⟨w.heap.size + 1 + 1, 0, none⟩ (.int .u64 (wd0 y))).setCell ⟨w.heap.size + 1 + 1, 1, none⟩ (.int .u64 (wd1 y))).setCell ⟨w.heap.size + 1 + 1, 2, none⟩ (.int .u64 (wd2 y))).setCell ⟨w.heap.size + 1 + 1, 3, none⟩ (.int .u64 (wd3 y))) :=
  ⟨h.va.set4 (by omega) _ _ _ _, h.vb.set4 (by omega) _ _ _ _, Var.put4 h.vq y, h.vr.set4 (by omega) _ _ _ _, below_set4 h.below (by omega) _ _ _ _⟩
theorem DivAt.odd {w : World} {a b q r : Int} {wr : World} (h : DivAt w a b (q + q) r wr) : DivAt w a b (q + q + 1) r (wr.setCell ⟨w.heap.size + 1 + 1, 0, none⟩ (.int .u64 (wd0 (q + q + 1)))) := by
  refine ⟨h.va.set (by omega) _ _ _, h.vb.set (by omega) _ _ _, ?_, h.vr.set (by omega) _ _ _, h.below.setCell (by show _ ≤ w.heap.size + 1 + 1; omega) _⟩
  have := Blk.put h.vq 0 (.int .u64 (wd0 (q + q + 1)))
  show Blk _ _ #[_, .int .u64 (wd1 (q + q + 1)), .int .u64 (wd2 (q + q + 1)), .int .u64 (wd3 (q + q + 1))] _
  rw [wd1_odd, wd2_odd, wd3_odd]
  exact this
theorem DivAt.wda {w : World} {a b q r : Int} {wr : World} (h : DivAt w a b q r wr) {j : Nat} (hj : j < 256) : wr.cell? ⟨w.heap.size, j / 64, none⟩ = some (.int .u64 (wd (j / 64) a)) := by
  rw [Blk.cell h.va]
  have : j / 64 < 4 := by omega
  match j / 64, this with
  | 0, _ => rfl
  | 1, _ => rfl
  | 2, _ => rfl
  | 3, _ => rfl

set_option maxRecDepth 100000 in
set_option maxHeartbeats 4000000 in
theorem divided_any (a b : Int) (w : World) (ha : 0 ≤ a ∧ a < b256) (hb : 0 < b ∧ b < b256) :
    Calls Tryd.prog 29 #[wI a, wI b] w fun e w' => e = .returned (.tuple #[wI (a / b), wI (a % b)]) ∧ Below w.heap.size w w' := by
  have HA := Lib.hid ha
  have HB := Lib.hid hb
  clear ha hb
  go_enter Tryd.func29, Tryd.ntmps29
  go_wp2_with fail
  refine name_world ?_
  intro W0 hW
  have hd0 : DivAt w a b 0 0 W0 := by
    rw [hW]
    exact ⟨((Blk.new _ _ _).alloc _).alloc _ |>.alloc _, ((Blk.new1 _ _ _ _).alloc _).alloc _, (Blk.new2 _ _ _ _ _).alloc _, Blk.new3 _ _ _ _ _ _, (((Below.refl _ _).alloc (Nat.le_refl _) _).alloc (by simp) _).alloc (by simp; omega) _ |>.alloc (by simp; omega) _⟩
  clear hW
  go_loopw [6, 7] (fun i o wr => ∃ (k : Nat) (q r : Int), k ≤ 256 ∧ i = .int .i64 ((k : Int) - 1) ∧ Hid (q = a / 2 ^ k / b ∧ r = a / 2 ^ k % b) ∧ DivAt w a b q r wr) (fun i _ _ => (intOf i + 1).toNat)
  case atStart => exact ⟨256, 0, 0, by omega, rfl, div_start HA.out, hd0⟩
  case round =>
    clear hd0 W0
    rename_i i0 o0 wr
    obtain ⟨k, q, r, hk, rfl, hqr, hd⟩ := hrel
    cases k with
    | zero =>
      have e1 : ((0 : Nat) : Int) - 1 = -1 := by omega
      rw [e1]
      clear e1
      go_wp2_with fail
      refine name_world ?_
      intro W hW
      subst hW
      have c2 := Var.c hd.vq
      have c3 := Var.c hd.vr
      have l2 := Blk.lt hd.vq
      have l3 := Blk.lt hd.vr
      have f2 := Var.f hd.vq
      have f3 := Var.f hd.vr
      have hD := Lib.hid hd
      clear hd
      go_region
      go_wp2
      simp [bodyPost, results, Tryd.results29, go_sem, c2, c3]
      have hq := hqr.out
      rw [Int.pow_zero, Int.ediv_one] at hq
      obtain ⟨rfl, rfl⟩ := hq
      refine ⟨⟨⟨rfl, rfl, rfl, rfl⟩, rfl, rfl, rfl, rfl⟩, ?_⟩
      refine (below_set4 (below_set4 hD.out.below ?_ _ _ _ _) ?_ _ _ _ _).drew <;> omega
    | succ j =>
      have e1 : ((j + 1 : Nat) : Int) - 1 = (j : Int) := by omega
      rw [e1]
      clear e1
      have hj : j < 256 := by omega
      clear hk
      obtain ⟨t, ht⟩ : ∃ t, t = a / 2 ^ j % 2 := ⟨_, rfl⟩
      have hbit := bit_eq a hj
      rw [← ht] at hbit
      obtain ⟨⟨r0, r1, t0, t1⟩, s1, s2⟩ := div_step HB.out.1 hqr.out.1 hqr.out.2 ht
      have go := div_over (b := b) (r := r) (t := t) HB.out ⟨r0, r1, t0, t1⟩
      have gl := div_lt (b := b) (r := r) (t := t) HB.out ⟨r0, r1, t0, t1⟩
      have gg := div_ge (b := b) (r := r) (t := t) HB.out ⟨r0, r1, t0, t1⟩
      have S1 := Lib.hid s1
      have S2 := Lib.hid s2
      have GO := Lib.hid go
      have GL := Lib.hid gl
      have GG := Lib.hid gg
      clear s1 s2 go gl gg hqr ht r0 r1
      have hor := or_one q
      cases hov : ng r <;> cases hlt : ltU (r + r + t) b
      · have HOV := Lib.hid hov
        have HLT := Lib.hid hlt
        have c3 := Var.c hd.vr
        go_wp2_with (first | (go_at_call 33; refine (negative_any _ _).mono ?_; rintro e w2 ⟨rfl, hn⟩; replace hd := hd.of hn; clear c3 hn))
        clear hov
        refine name_world ?_
        intro W hW
        subst hW
        have c0 := hd.wda hj
        have c3 := Var.c hd.vr
        have l0 := Blk.lt hd.va
        have l3 := Blk.lt hd.vr
        have hD := Lib.hid hd
        clear hd
        refine wp_region_up W.heap.size 10 [(true, 0), (true, 1), (true, 2), (true, 3), (true, 4), (true, 5), (true, 6), (true, 7), (true, 8), (true, 9)] (by kernel_rfl) (by kernel_rfl) (fun _ _ d _ _ h => by cases d <;> exact h) ?_
        iterate 10
          refine wpS_takeL rfl rfl ?_
          go_big_quiet_step (rfl)
          refine wpQuiet_nil ?_
        refine wpS_nil ?_
        simp only [List.drop_succ_cons, List.drop_zero]
        clear c0 c3 l0 l3 hbit
        go_wp2_with fail
        refine (plus_any r r t _ t0 t1).mono ?_
        rintro e w2 ⟨rfl, hn⟩
        have hd : DivAt w a b q r w2 := hD.out.of ((Below.refl _ _).drew.trans hn)
        clear hD hn
        have c2 := Var.c hd.vq
        have c3 := Var.c hd.vr
        have f3 := Var.f hd.vr
        go_wp2_with fail
        refine calls_w ?_
        intro W1 hW1
        replace hd : DivAt w a b q (r + r + t) W1 := by rw [hW1]; exact hd.setr _
        clear hW1 c2 c3 f3
        refine (plus_any q q 0 _ (by decide) (by decide)).mono ?_
        rintro e w3 ⟨rfl, hn⟩
        rw [Int.add_zero]
        replace hd := hd.of hn
        clear hn w2 W1
        have c1 := Var.c hd.vb
        have c2 := Var.c hd.vq
        have c3 := Var.c hd.vr
        have f2 := Var.f hd.vq
        go_wp2_with fail
        refine calls_w ?_
        intro W2 hW2
        replace hd : DivAt w a b (q + q) (r + r + t) W2 := by rw [hW2]; exact hd.setq _
        clear hW2 c1 c2 c3 f2
        refine (below_any (r + r + t) b _).mono ?_
        rintro e w4 ⟨rfl, hn⟩
        replace hd := hd.of hn
        clear hn w3 W2
        go_wp2_with fail
        have S := S1.out (GG.out HOV.out HLT.out)
        have HS := Lib.hid S
        clear S HLT hlt
        refine name_world ?_
        intro W hW
        subst hW
        have c1 := Var.c hd.vb
        have c3 := Var.c hd.vr
        have l1 := Blk.lt hd.vb
        have l3 := Blk.lt hd.vr
        have hD := Lib.hid hd
        clear hd
        refine wp_region_up W.heap.size 3 [(true, 0), (true, 1), (false, 2)] (by kernel_rfl) (by kernel_rfl) (fun _ _ d _ _ h => by cases d <;> exact h) ?_
        have hb : Below W.heap.size W W.drew := (Below.refl _ _).drew
        iterate 2
          refine wpS_takeL rfl rfl ?_
          go_big_quiet_step (rfl)
          refine wpQuiet_nil ?_
        refine wpS_doL rfl ?_
        intro K hK
        go_wp2_with ((first | (go_at_call 35; refine (turned_any _ _).mono ?_; rintro e w2 ⟨rfl, hn⟩)))
        replace hb := hb.trans (hn.mono hb.size)
        refine hK.out _ _ (up_iff.2 hb) ?_
        clear hK K
        clear hn
        refine wpS_nil ?_
        simp only [List.drop_succ_cons, List.drop_zero]
        have hd : DivAt w a b (q + q) (r + r + t) w2 := hD.out.of hb
        clear hD hb c1 c3 l1 l3
        go_wp2_with fail
        refine (plus_any (r + r + t) (-1 - b) 1 _ (by decide) (by decide)).mono ?_
        rintro e w5 ⟨rfl, hn⟩
        have e5 : r + r + t + (-1 - b) + 1 = r + r + t - b := by omega
        rw [e5]
        clear e5
        replace hd := hd.of hn
        clear hn
        have c2 := Var.c hd.vq
        have c3 := Var.c hd.vr
        have f2 := Var.f hd.vq
        have f3 := Var.f hd.vr
        go_wp2_with fail
        go_roundw
        case rel => exact ⟨j, q + q + 1, r + r + t - b, by omega, rfl, HS.out, (hd.setr _).odd⟩
        case measure => simp [intOf]
      · have HOV := Lib.hid hov
        have HLT := Lib.hid hlt
        have c3 := Var.c hd.vr
        go_wp2_with (first | (go_at_call 33; refine (negative_any _ _).mono ?_; rintro e w2 ⟨rfl, hn⟩; replace hd := hd.of hn; clear c3 hn))
        clear hov
        refine name_world ?_
        intro W hW
        subst hW
        have c0 := hd.wda hj
        have c3 := Var.c hd.vr
        have l0 := Blk.lt hd.va
        have l3 := Blk.lt hd.vr
        have hD := Lib.hid hd
        clear hd
        refine wp_region_up W.heap.size 10 [(true, 0), (true, 1), (true, 2), (true, 3), (true, 4), (true, 5), (true, 6), (true, 7), (true, 8), (true, 9)] (by kernel_rfl) (by kernel_rfl) (fun _ _ d _ _ h => by cases d <;> exact h) ?_
        iterate 10
          refine wpS_takeL rfl rfl ?_
          go_big_quiet_step (rfl)
          refine wpQuiet_nil ?_
        refine wpS_nil ?_
        simp only [List.drop_succ_cons, List.drop_zero]
        clear c0 c3 l0 l3 hbit
        go_wp2_with fail
        refine (plus_any r r t _ t0 t1).mono ?_
        rintro e w2 ⟨rfl, hn⟩
        have hd : DivAt w a b q r w2 := hD.out.of ((Below.refl _ _).drew.trans hn)
        clear hD hn
        have c2 := Var.c hd.vq
        have c3 := Var.c hd.vr
        have f3 := Var.f hd.vr
        go_wp2_with fail
        refine calls_w ?_
        intro W1 hW1
        replace hd : DivAt w a b q (r + r + t) W1 := by rw [hW1]; exact hd.setr _
        clear hW1 c2 c3 f3
        refine (plus_any q q 0 _ (by decide) (by decide)).mono ?_
        rintro e w3 ⟨rfl, hn⟩
        rw [Int.add_zero]
        replace hd := hd.of hn
        clear hn w2 W1
        have c1 := Var.c hd.vb
        have c2 := Var.c hd.vq
        have c3 := Var.c hd.vr
        have f2 := Var.f hd.vq
        go_wp2_with fail
        refine calls_w ?_
        intro W2 hW2
        replace hd : DivAt w a b (q + q) (r + r + t) W2 := by rw [hW2]; exact hd.setq _
        clear hW2 c1 c2 c3 f2
        refine (below_any (r + r + t) b _).mono ?_
        rintro e w4 ⟨rfl, hn⟩
        replace hd := hd.of hn
        clear hn w3 W2
        go_wp2_with fail
        go_roundw
        case rel => exact ⟨j, q + q, r + r + t, by omega, rfl, S2.out (GL.out HOV.out HLT.out), hd⟩
        case measure => simp [intOf]
      · have HOV := Lib.hid hov
        have HLT := Lib.hid hlt
        have c3 := Var.c hd.vr
        go_wp2_with (first | (go_at_call 33; refine (negative_any _ _).mono ?_; rintro e w2 ⟨rfl, hn⟩; replace hd := hd.of hn; clear c3 hn))
        clear hov
        refine name_world ?_
        intro W hW
        subst hW
        have c0 := hd.wda hj
        have c3 := Var.c hd.vr
        have l0 := Blk.lt hd.va
        have l3 := Blk.lt hd.vr
        have hD := Lib.hid hd
        clear hd
        refine wp_region_up W.heap.size 10 [(true, 0), (true, 1), (true, 2), (true, 3), (true, 4), (true, 5), (true, 6), (true, 7), (true, 8), (true, 9)] (by kernel_rfl) (by kernel_rfl) (fun _ _ d _ _ h => by cases d <;> exact h) ?_
        iterate 10
          refine wpS_takeL rfl rfl ?_
          go_big_quiet_step (rfl)
          refine wpQuiet_nil ?_
        refine wpS_nil ?_
        simp only [List.drop_succ_cons, List.drop_zero]
        clear c0 c3 l0 l3 hbit
        go_wp2_with fail
        refine (plus_any r r t _ t0 t1).mono ?_
        rintro e w2 ⟨rfl, hn⟩
        have hd : DivAt w a b q r w2 := hD.out.of ((Below.refl _ _).drew.trans hn)
        clear hD hn
        have c2 := Var.c hd.vq
        have c3 := Var.c hd.vr
        have f3 := Var.f hd.vr
        go_wp2_with fail
        refine calls_w ?_
        intro W1 hW1
        replace hd : DivAt w a b q (r + r + t) W1 := by rw [hW1]; exact hd.setr _
        clear hW1 c2 c3 f3
        refine (plus_any q q 0 _ (by decide) (by decide)).mono ?_
        rintro e w3 ⟨rfl, hn⟩
        rw [Int.add_zero]
        replace hd := hd.of hn
        clear hn w2 W1
        have c1 := Var.c hd.vb
        have c2 := Var.c hd.vq
        have c3 := Var.c hd.vr
        have f2 := Var.f hd.vq
        go_wp2_with fail
        refine name_world ?_
        intro w4 hw4
        replace hd : DivAt w a b (q + q) (r + r + t) w4 := by rw [hw4]; exact hd.setq _
        clear hw4 c1 c2 c3 f2 w3
        have S := S1.out (GO.out HOV.out)
        have HS := Lib.hid S
        clear S HLT hlt
        refine name_world ?_
        intro W hW
        subst hW
        have c1 := Var.c hd.vb
        have c3 := Var.c hd.vr
        have l1 := Blk.lt hd.vb
        have l3 := Blk.lt hd.vr
        have hD := Lib.hid hd
        clear hd
        refine wp_region_up W.heap.size 3 [(true, 0), (true, 1), (false, 2)] (by kernel_rfl) (by kernel_rfl) (fun _ _ d _ _ h => by cases d <;> exact h) ?_
        have hb : Below W.heap.size W W.drew := (Below.refl _ _).drew
        iterate 2
          refine wpS_takeL rfl rfl ?_
          go_big_quiet_step (rfl)
          refine wpQuiet_nil ?_
        refine wpS_doL rfl ?_
        intro K hK
        go_wp2_with ((first | (go_at_call 35; refine (turned_any _ _).mono ?_; rintro e w2 ⟨rfl, hn⟩)))
        replace hb := hb.trans (hn.mono hb.size)
        refine hK.out _ _ (up_iff.2 hb) ?_
        clear hK K
        clear hn
        refine wpS_nil ?_
        simp only [List.drop_succ_cons, List.drop_zero]
        have hd : DivAt w a b (q + q) (r + r + t) w2 := hD.out.of hb
        clear hD hb c1 c3 l1 l3
        go_wp2_with fail
        refine (plus_any (r + r + t) (-1 - b) 1 _ (by decide) (by decide)).mono ?_
        rintro e w5 ⟨rfl, hn⟩
        have e5 : r + r + t + (-1 - b) + 1 = r + r + t - b := by omega
        rw [e5]
        clear e5
        replace hd := hd.of hn
        clear hn
        have c2 := Var.c hd.vq
        have c3 := Var.c hd.vr
        have f2 := Var.f hd.vq
        have f3 := Var.f hd.vr
        go_wp2_with fail
        go_roundw
        case rel => exact ⟨j, q + q + 1, r + r + t - b, by omega, rfl, HS.out, (hd.setr _).odd⟩
        case measure => simp [intOf]
      · have HOV := Lib.hid hov
        have HLT := Lib.hid hlt
        have c3 := Var.c hd.vr
        go_wp2_with (first | (go_at_call 33; refine (negative_any _ _).mono ?_; rintro e w2 ⟨rfl, hn⟩; replace hd := hd.of hn; clear c3 hn))
        clear hov
        refine name_world ?_
        intro W hW
        subst hW
        have c0 := hd.wda hj
        have c3 := Var.c hd.vr
        have l0 := Blk.lt hd.va
        have l3 := Blk.lt hd.vr
        have hD := Lib.hid hd
        clear hd
        refine wp_region_up W.heap.size 10 [(true, 0), (true, 1), (true, 2), (true, 3), (true, 4), (true, 5), (true, 6), (true, 7), (true, 8), (true, 9)] (by kernel_rfl) (by kernel_rfl) (fun _ _ d _ _ h => by cases d <;> exact h) ?_
        iterate 10
          refine wpS_takeL rfl rfl ?_
          go_big_quiet_step (rfl)
          refine wpQuiet_nil ?_
        refine wpS_nil ?_
        simp only [List.drop_succ_cons, List.drop_zero]
        clear c0 c3 l0 l3 hbit
        go_wp2_with fail
        refine (plus_any r r t _ t0 t1).mono ?_
        rintro e w2 ⟨rfl, hn⟩
        have hd : DivAt w a b q r w2 := hD.out.of ((Below.refl _ _).drew.trans hn)
        clear hD hn
        have c2 := Var.c hd.vq
        have c3 := Var.c hd.vr
        have f3 := Var.f hd.vr
        go_wp2_with fail
        refine calls_w ?_
        intro W1 hW1
        replace hd : DivAt w a b q (r + r + t) W1 := by rw [hW1]; exact hd.setr _
        clear hW1 c2 c3 f3
        refine (plus_any q q 0 _ (by decide) (by decide)).mono ?_
        rintro e w3 ⟨rfl, hn⟩
        rw [Int.add_zero]
        replace hd := hd.of hn
        clear hn w2 W1
        have c1 := Var.c hd.vb
        have c2 := Var.c hd.vq
        have c3 := Var.c hd.vr
        have f2 := Var.f hd.vq
        go_wp2_with fail
        refine name_world ?_
        intro w4 hw4
        replace hd : DivAt w a b (q + q) (r + r + t) w4 := by rw [hw4]; exact hd.setq _
        clear hw4 c1 c2 c3 f2 w3
        have S := S1.out (GO.out HOV.out)
        have HS := Lib.hid S
        clear S HLT hlt
        refine name_world ?_
        intro W hW
        subst hW
        have c1 := Var.c hd.vb
        have c3 := Var.c hd.vr
        have l1 := Blk.lt hd.vb
        have l3 := Blk.lt hd.vr
        have hD := Lib.hid hd
        clear hd
        refine wp_region_up W.heap.size 3 [(true, 0), (true, 1), (false, 2)] (by kernel_rfl) (by kernel_rfl) (fun _ _ d _ _ h => by cases d <;> exact h) ?_
        have hb : Below W.heap.size W W.drew := (Below.refl _ _).drew
        iterate 2
          refine wpS_takeL rfl rfl ?_
          go_big_quiet_step (rfl)
          refine wpQuiet_nil ?_
        refine wpS_doL rfl ?_
        intro K hK
        go_wp2_with ((first | (go_at_call 35; refine (turned_any _ _).mono ?_; rintro e w2 ⟨rfl, hn⟩)))
        replace hb := hb.trans (hn.mono hb.size)
        refine hK.out _ _ (up_iff.2 hb) ?_
        clear hK K
        clear hn
        refine wpS_nil ?_
        simp only [List.drop_succ_cons, List.drop_zero]
        have hd : DivAt w a b (q + q) (r + r + t) w2 := hD.out.of hb
        clear hD hb c1 c3 l1 l3
        go_wp2_with fail
        refine (plus_any (r + r + t) (-1 - b) 1 _ (by decide) (by decide)).mono ?_
        rintro e w5 ⟨rfl, hn⟩
        have e5 : r + r + t + (-1 - b) + 1 = r + r + t - b := by omega
        rw [e5]
        clear e5
        replace hd := hd.of hn
        clear hn
        have c2 := Var.c hd.vq
        have c3 := Var.c hd.vr
        have f2 := Var.f hd.vq
        have f3 := Var.f hd.vr
        go_wp2_with fail
        go_roundw
        case rel => exact ⟨j, q + q + 1, r + r + t - b, by omega, rfl, HS.out, (hd.setr _).odd⟩
        case measure => simp [intOf]
end Go.Proofs.YtcfiemeknocgjaaDoor
