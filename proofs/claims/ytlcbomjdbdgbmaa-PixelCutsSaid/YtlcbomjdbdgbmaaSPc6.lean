/- My texts PcI, AwT, Px5, joined: what the last one needs of them. Conditions: as each lemma says. -/
import Derived.Test.YtlcbomjdbdgbmaaSPc5
import Derived.KernelRfl
import Derived.StillTail
import Derived.OrdersHeld
import Derived.Deep.Quiet
import Derived.Below
import Derived.WalkKit
import Derived.Test.YtlcbomjdbdgbmaaProg
import Derived.WalkSpells
import Derived.StillTactics
import Derived.Laws.Pointers
import Derived.Deep.RegionHeld3
import Derived.RowKit3
import Derived.Deep.QuietTactic
import Derived.BigQuiet
import Derived.BigRegion
import Derived.Lib.Hide
import Derived.WalkSmall
import Derived.Laws.BitsAllLaws
import Derived.IntWalk
import Derived.Deep.OwnRows
import Derived.Deep.LoopGhost
import Derived.Shelf.Bits.Mul64
import Derived.ProofKit
import Derived.OpenShut
import Derived.ShutString
import Derived.ChangeOld
import Derived.Lib.SmallJoins
import Derived.Laws.IdiomArrays
import Derived.RowKit
import Derived.Deep.WholeRow
import Derived.Laws.Rows
namespace Go.Proofs.Ytlcbomjdbdgbmaa
open Go.RowKit

set_option maxRecDepth 100000 in
set_option maxHeartbeats 40000000 in

theorem Cut15_g (ax : Int) (ay : Int) (bx : Int) (b_y : Int) (cx : Int) (cy : Int) (n : Int)    (_iax : In64 ax) (_iay : In64 ay) (_ibx : In64 bx) (_ib_y : In64 b_y) (_icx : In64 cx) (_icy : In64 cy) (_in : In64 n)  (w : World)  :
    Calls Try.prog 35 #[.agg #[.int .i64 ax, .int .i64 ay], .agg #[.int .i64 bx, .int .i64 b_y], .agg #[.int .i64 cx, .int .i64 cy], .int .i64 n] w (Cu_post ax ay bx b_y cx cy n w) := by

  go_enter Try.func35, Try.ntmps35
  go_wp2_with fail
  first | refine calls_w ?_ | refine name_world ?_ | refine list_world ?_ | refine post_world ?_
  intro V1 hV1
  have hn : Below w.heap.size w V1 := by rw [hV1]; exact below_a4 _ _ _ _ _
  have nhb0 := hn
  have k1 : Blk V1 w.heap.size #[.int .i64 ax, .int .i64 ay] 31 := by rw [hV1]; exact ((((Blk.new _ _ _).alloc _).alloc _).alloc _)
  have k2 : Blk V1 (w.heap.size + 1) #[.int .i64 bx, .int .i64 b_y] 31 := by rw [hV1]; exact (((Blk.new1 _ _ _ _).alloc _).alloc _)
  have k3 : Blk V1 (w.heap.size + 1 + 1) #[.int .i64 cx, .int .i64 cy] 31 := by rw [hV1]; exact ((Blk.new2 _ _ _ _ _).alloc _)
  have k4 : Blk V1 (w.heap.size + 1 + 1 + 1) #[.bool false, .slice none 0 0, .bool false, .slice none 0 0, .bool false, .slice none 0 0, .bool false, .slice none 0 0, .bool false, .bool false, .bool false] 62 := by rw [hV1]; exact (Blk.new3 _ _ _ _ _ _)
  clear hV1
  have hb0 := nhb0
  clear nhb0
  refine (Ts_g ax ay bx b_y cx cy n _iax _iay _ibx _ib_y _icx _icy _in _).mono ?_
  rintro e U2 ⟨pg1, pc1, pn1, PF1, rfl, hbm, hlm, hmm, hn⟩
  replace k1 := k1.of hn
  replace k2 := k2.of hn
  replace k3 := k3.of hn
  replace k4 := k4.of hn
  replace hb0 := hb0.trans (hn.mono hb0.size)
  clear hn
  have HB1 := Lib.hid hbm
  have HP1 := Lib.hid hlm
  have HM1 := Lib.hid hmm
  clear hbm hlm hmm
  go_wp2_with fail
  first | refine name_world ?_
  intro V3 hV3
  have D1 := Lib.hid k1.lt
  have D2 := Lib.hid k2.lt
  have D3 := Lib.hid k3.lt
  have D4 := Lib.hid k4.lt
  have D5 := Lib.hid hb0.size
  have hn : Below U2.heap.size U2 V3 := by rw [hV3]; exact below_a1 _ _
  have nk1 := k1.of hn
  have nk2 := k2.of hn
  have nk3 := k3.of hn
  have nk4 := k4.of hn
  replace HB1 := Lib.hid (HB1.out.of hn)
  have nhb0 := hb0.trans (hn.mono hb0.size)
  clear hn
  have k5 : Blk V3 U2.heap.size #[.bool false, .slice none 0 0, .bool false, .slice none 0 0, .bool false, .slice none 0 0, .bool false, .slice none 0 0, .bool false, .bool false, .bool false] 62 := by rw [hV3]; exact (Blk.new _ _ _)
  clear k1 k2 k3 k4
  clear hb0
  clear hV3
  have k1 := nk1
  clear nk1
  have k2 := nk2
  clear nk2
  have k3 := nk3
  clear nk3
  have k4 := nk4
  clear nk4
  have hb0 := nhb0
  clear nhb0
  go_loopg [11] pn1 (fun gk_ s1_0 wr => ∃ (i : Int) (fN : Int) (fD : Int) (tN : Int) (tD : Int) (so : Bool) (su : Bool) (ss : Bool) (nA : Bool) (aA : Option Addr) (lA cA : Nat) (nB : Bool) (aB : Option Addr) (lB cB : Nat) (nC : Bool) (aC : Option Addr) (lC cC : Nat) (nE : Bool) (aE : Option Addr) (lE cE : Nat), s1_0 = .int .i64 i ∧ Hid (CuI ax ay bx b_y cx cy n PF1 pn1 i ⟨ss, fN, fD, tN, tD, so, su⟩ ∧ pn1 - i.toNat ≤ (gk_ : Nat)) ∧ Blk wr w.heap.size #[.int .i64 ax, .int .i64 ay] 31 ∧ Blk wr (w.heap.size + 1) #[.int .i64 bx, .int .i64 b_y] 31 ∧ Blk wr (w.heap.size + 1 + 1) #[.int .i64 cx, .int .i64 cy] 31 ∧ Blk wr (w.heap.size + 1 + 1 + 1) #[.bool false, .slice none 0 0, .bool false, .slice none 0 0, .bool false, .slice none 0 0, .bool false, .slice none 0 0, .bool false, .bool false, .bool false] 62 ∧ Blk wr U2.heap.size #[.bool nA, .slice aA lA cA, .bool nB, .slice aB lB cB, .bool nC, .slice aC lC cC, .bool nE, .slice aE lE cE, .bool so, .bool su, .bool ss] 62 ∧ RS wr pg1 pc1 pn1 PF1 ∧ Big wr (.agg #[.bool nA, .slice aA lA cA]) fN 18 ∧ Big wr (.agg #[.bool nB, .slice aB lB cB]) fD 18 ∧ Big wr (.agg #[.bool nC, .slice aC lC cC]) tN 18 ∧ Big wr (.agg #[.bool nE, .slice aE lE cE]) tD 18 ∧ Below w.heap.size w wr)
  case atStart =>
    have HIn : CuI ax ay bx b_y cx cy n PF1 pn1 0 ⟨false, 0, 0, 0, 0, false, false⟩ ∧ pn1 - (0 : Int).toNat ≤ (pn1 : Nat) := by
      exact ⟨CuI.begin, by omega⟩
    exact ⟨0, 0, 0, 0, 0, false, false, false, false, none, 0, 0, false, none, 0, 0, false, none, 0, 0, false, none, 0, 0, rfl, Lib.hid HIn, k1, k2, k3, k4, k5, HB1.out, (Big.zero _ _), (Big.zero _ _), (Big.zero _ _), (Big.zero _ _), hb0⟩
  case round =>
    rename World => W1_
    rename Nat => gk1
    clear k1 k2 k3 k4 k5 HB1
    clear hb0
    obtain ⟨i, fN, fD, tN, tD, so, su, ss, nA, aA, lA, cA, nB, aB, lB, cB, nC, aC, lC, cC, nE, aE, lE, cE, rfl, HI1, k1, k2, k3, k4, k5, HB1_, HB2_, HB3_, HB4_, HB5_, hb0⟩ := hrel
    have HB1 := Lib.hid HB1_
    clear HB1_
    have HB2 := Lib.hid HB2_
    clear HB2_
    have HB3 := Lib.hid HB3_
    clear HB3_
    have HB4 := Lib.hid HB4_
    clear HB4_
    have HB5 := Lib.hid HB5_
    clear HB5_
    obtain ⟨z1, hz1⟩ : ∃ o_o : Bool, decide (i < (pn1 : Int)) = o_o := ⟨_, rfl⟩
    cases z1
    · have c4_0 : W1_.cell? ⟨(w.heap.size + 1 + 1 + 1), 0, none⟩ = some (.bool false) := k4.cell 0
      have c4_1 : W1_.cell? ⟨(w.heap.size + 1 + 1 + 1), 1, none⟩ = some (.slice none 0 0) := k4.cell 1
      have c4_2 : W1_.cell? ⟨(w.heap.size + 1 + 1 + 1), 2, none⟩ = some (.bool false) := k4.cell 2
      have c4_3 : W1_.cell? ⟨(w.heap.size + 1 + 1 + 1), 3, none⟩ = some (.slice none 0 0) := k4.cell 3
      have c4_4 : W1_.cell? ⟨(w.heap.size + 1 + 1 + 1), 4, none⟩ = some (.bool false) := k4.cell 4
      have c4_5 : W1_.cell? ⟨(w.heap.size + 1 + 1 + 1), 5, none⟩ = some (.slice none 0 0) := k4.cell 5
      have c4_6 : W1_.cell? ⟨(w.heap.size + 1 + 1 + 1), 6, none⟩ = some (.bool false) := k4.cell 6
      have c4_7 : W1_.cell? ⟨(w.heap.size + 1 + 1 + 1), 7, none⟩ = some (.slice none 0 0) := k4.cell 7
      have c4_8 : W1_.cell? ⟨(w.heap.size + 1 + 1 + 1), 8, none⟩ = some (.bool false) := k4.cell 8
      have c4_9 : W1_.cell? ⟨(w.heap.size + 1 + 1 + 1), 9, none⟩ = some (.bool false) := k4.cell 9
      have c4_10 : W1_.cell? ⟨(w.heap.size + 1 + 1 + 1), 10, none⟩ = some (.bool false) := k4.cell 10
      have f4_0 := k4.free 0
      have f4_1 := k4.free 1
      have f4_2 := k4.free 2
      have f4_3 := k4.free 3
      have f4_4 := k4.free 4
      have f4_5 := k4.free 5
      have f4_6 := k4.free 6
      have f4_7 := k4.free 7
      have f4_8 := k4.free 8
      have f4_9 := k4.free 9
      have f4_10 := k4.free 10
      have l4 := k4.lt
      have c5_0 : W1_.cell? ⟨U2.heap.size, 0, none⟩ = some (.bool nA) := k5.cell 0
      have c5_1 : W1_.cell? ⟨U2.heap.size, 1, none⟩ = some (.slice aA lA cA) := k5.cell 1
      have c5_2 : W1_.cell? ⟨U2.heap.size, 2, none⟩ = some (.bool nB) := k5.cell 2
      have c5_3 : W1_.cell? ⟨U2.heap.size, 3, none⟩ = some (.slice aB lB cB) := k5.cell 3
      have c5_4 : W1_.cell? ⟨U2.heap.size, 4, none⟩ = some (.bool nC) := k5.cell 4
      have c5_5 : W1_.cell? ⟨U2.heap.size, 5, none⟩ = some (.slice aC lC cC) := k5.cell 5
      have c5_6 : W1_.cell? ⟨U2.heap.size, 6, none⟩ = some (.bool nE) := k5.cell 6
      have c5_7 : W1_.cell? ⟨U2.heap.size, 7, none⟩ = some (.slice aE lE cE) := k5.cell 7
      have c5_8 : W1_.cell? ⟨U2.heap.size, 8, none⟩ = some (.bool so) := k5.cell 8
      have c5_9 : W1_.cell? ⟨U2.heap.size, 9, none⟩ = some (.bool su) := k5.cell 9
      have c5_10 : W1_.cell? ⟨U2.heap.size, 10, none⟩ = some (.bool ss) := k5.cell 10
      have l5 := k5.lt
      have p5_4 : U2.heap.size ≠ (w.heap.size + 1 + 1 + 1) := (by have := D4.out; omega)
      go_wp2
      clear c4_0 c4_1 c4_2 c4_3 c4_4 c4_5 c4_6 c4_7 c4_8 c4_9 c4_10 f4_0 f4_1 f4_2 f4_3 f4_4 f4_5 f4_6 f4_7 f4_8 f4_9 f4_10 l4 c5_0 c5_1 c5_2 c5_3 c5_4 c5_5 c5_6 c5_7 c5_8 c5_9 c5_10 l5 p5_4
      first | refine post_world ?_
      intro V4 hV4
      clear HB1
      clear k1 k2 k3 k5
      have D6 := Lib.hid k4.lt
      have D7 := Lib.hid hb0.size
      have nk4 : Blk V4 (w.heap.size + 1 + 1 + 1) #[.bool nA, .slice aA lA cA, .bool nB, .slice aB lB cB, .bool nC, .slice aC lC cC, .bool nE, .slice aE lE cE, .bool so, .bool su, .bool ss] 62 := by rw [hV4]; exact (blk_full _ [.bool nA, .slice aA lA cA, .bool nB, .slice aB lB cB, .bool nC, .slice aC lC cC, .bool nE, .slice aE lE cE, .bool so, .bool su, .bool ss] k4 rfl)
      have nhb0 : Below w.heap.size w V4 := by rw [hV4]; exact (blw_setL hb0 (by omega) 0 [.bool nA, .slice aA lA cA, .bool nB, .slice aB lB cB, .bool nC, .slice aC lC cC, .bool nE, .slice aE lE cE, .bool so, .bool su, .bool ss])
      replace HB2 : Hid (Big V4 (.agg #[.bool nA, .slice aA lA cA]) fN 18) := Lib.hid (by rw [hV4]; exact (big_setL HB2.out (Blk.cell k4 0) (fun _ h => by cases h) 0 [.bool nA, .slice aA lA cA, .bool nB, .slice aB lB cB, .bool nC, .slice aC lC cC, .bool nE, .slice aE lE cE, .bool so, .bool su, .bool ss]))
      replace HB3 : Hid (Big V4 (.agg #[.bool nB, .slice aB lB cB]) fD 18) := Lib.hid (by rw [hV4]; exact (big_setL HB3.out (Blk.cell k4 0) (fun _ h => by cases h) 0 [.bool nA, .slice aA lA cA, .bool nB, .slice aB lB cB, .bool nC, .slice aC lC cC, .bool nE, .slice aE lE cE, .bool so, .bool su, .bool ss]))
      replace HB4 : Hid (Big V4 (.agg #[.bool nC, .slice aC lC cC]) tN 18) := Lib.hid (by rw [hV4]; exact (big_setL HB4.out (Blk.cell k4 0) (fun _ h => by cases h) 0 [.bool nA, .slice aA lA cA, .bool nB, .slice aB lB cB, .bool nC, .slice aC lC cC, .bool nE, .slice aE lE cE, .bool so, .bool su, .bool ss]))
      replace HB5 : Hid (Big V4 (.agg #[.bool nE, .slice aE lE cE]) tD 18) := Lib.hid (by rw [hV4]; exact (big_setL HB5.out (Blk.cell k4 0) (fun _ h => by cases h) 0 [.bool nA, .slice aA lA cA, .bool nB, .slice aB lB cB, .bool nC, .slice aC lC cC, .bool nE, .slice aE lE cE, .bool so, .bool su, .bool ss]))
      clear k4
      clear hb0
      clear hV4
      have k4 := nk4
      clear nk4
      have hb0 := nhb0
      clear nhb0
      have g4_0 : V4.cell? ⟨(w.heap.size + 1 + 1 + 1), 0, none⟩ = some (.bool nA) := k4.cell 0
      have g4_1 : V4.cell? ⟨(w.heap.size + 1 + 1 + 1), 1, none⟩ = some (.slice aA lA cA) := k4.cell 1
      have g4_2 : V4.cell? ⟨(w.heap.size + 1 + 1 + 1), 2, none⟩ = some (.bool nB) := k4.cell 2
      have g4_3 : V4.cell? ⟨(w.heap.size + 1 + 1 + 1), 3, none⟩ = some (.slice aB lB cB) := k4.cell 3
      have g4_4 : V4.cell? ⟨(w.heap.size + 1 + 1 + 1), 4, none⟩ = some (.bool nC) := k4.cell 4
      have g4_5 : V4.cell? ⟨(w.heap.size + 1 + 1 + 1), 5, none⟩ = some (.slice aC lC cC) := k4.cell 5
      have g4_6 : V4.cell? ⟨(w.heap.size + 1 + 1 + 1), 6, none⟩ = some (.bool nE) := k4.cell 6
      have g4_7 : V4.cell? ⟨(w.heap.size + 1 + 1 + 1), 7, none⟩ = some (.slice aE lE cE) := k4.cell 7
      have g4_8 : V4.cell? ⟨(w.heap.size + 1 + 1 + 1), 8, none⟩ = some (.bool so) := k4.cell 8
      have g4_9 : V4.cell? ⟨(w.heap.size + 1 + 1 + 1), 9, none⟩ = some (.bool su) := k4.cell 9
      have g4_10 : V4.cell? ⟨(w.heap.size + 1 + 1 + 1), 10, none⟩ = some (.bool ss) := k4.cell 10
      clear k4
      simp [bodyPost, results, Try.results35, go_sem, g4_0, g4_1, g4_2, g4_3, g4_4, g4_5, g4_6, g4_7, g4_8, g4_9, g4_10]
      unfold Cu_post
      exact ⟨nA, aA, lA, cA, nB, aB, lB, cB, nC, aC, lC, cC, nE, aE, lE, cE, ⟨ss, fN, fD, tN, tD, so, su⟩, rfl, HB2.out, HB3.out, HB4.out, HB5.out, by rw [← HP1.out]; exact HI1.out.1.fin hz1, hb0⟩
    · go_wp2_with fail
      obtain ⟨r2, hr2⟩ : ∃ o_o : Int, a15X ax ay bx b_y (PF1.N (i.toNat)) (PF1.D (i.toNat)) = o_o := ⟨_, rfl⟩
      have Hr2 := Lib.hid hr2
      clear hr2
      obtain ⟨r3, hr3⟩ : ∃ o_o : Int, a15Y ax ay bx b_y (PF1.N (i.toNat)) (PF1.D (i.toNat)) = o_o := ⟨_, rfl⟩
      have Hr3 := Lib.hid hr3
      clear hr3
      obtain ⟨r4, hr4⟩ : ∃ o_o : Int, a15W ax ay bx b_y (PF1.N (i.toNat)) (PF1.D (i.toNat)) = o_o := ⟨_, rfl⟩
      have Hr4 := Lib.hid hr4
      clear hr4
      have c1_0 : W1_.cell? ⟨w.heap.size, 0, none⟩ = some (.int .i64 ax) := k1.cell 0
      have c1_1 : W1_.cell? ⟨w.heap.size, 1, none⟩ = some (.int .i64 ay) := k1.cell 1
      have l1 := k1.lt
      have c2_0 : W1_.cell? ⟨(w.heap.size + 1), 0, none⟩ = some (.int .i64 bx) := k2.cell 0
      have c2_1 : W1_.cell? ⟨(w.heap.size + 1), 1, none⟩ = some (.int .i64 b_y) := k2.cell 1
      have l2 := k2.lt
      have c3_0 : W1_.cell? ⟨(w.heap.size + 1 + 1), 0, none⟩ = some (.int .i64 cx) := k3.cell 0
      have c3_1 : W1_.cell? ⟨(w.heap.size + 1 + 1), 1, none⟩ = some (.int .i64 cy) := k3.cell 1
      have l3 := k3.lt
      have ea0 : (0 : Int) ≤ i := ((HI1.out.1.ix hz1)).1
      have eb0 : (i : Int) < (pn1 : Int) := ((HI1.out.1.ix hz1)).2
      have el0 := RS.lt HB1.out
      have ec0_0 : W1_.cell? ⟨pg1, i.toNat * 4, none⟩ = some (.bool (PF1.b (i.toNat))) := RS.c0 HB1.out (ixlt (HI1.out.1.ix hz1))
      have ec0_1 : W1_.cell? ⟨pg1, i.toNat * 4 + 1, none⟩ = some (.slice (PF1.a (i.toNat)) (PF1.q (i.toNat)) (PF1.c (i.toNat))) := RS.c1 HB1.out (ixlt (HI1.out.1.ix hz1))
      have ec0_2 : W1_.cell? ⟨pg1, i.toNat * 4 + 2, none⟩ = some (.bool (PF1.b2 (i.toNat))) := RS.c2 HB1.out (ixlt (HI1.out.1.ix hz1))
      have ec0_3 : W1_.cell? ⟨pg1, i.toNat * 4 + 3, none⟩ = some (.slice (PF1.a2 (i.toNat)) (PF1.q2 (i.toNat)) (PF1.c2 (i.toNat))) := RS.c3 HB1.out (ixlt (HI1.out.1.ix hz1))
      have Kk1 := Lib.hid k1
      clear k1
      have Kk2 := Lib.hid k2
      clear k2
      have Kk3 := Lib.hid k3
      clear k3
      have Kk4 := Lib.hid k4
      clear k4
      have Kk5 := Lib.hid k5
      clear k5
      refine wp_region_up W1_.heap.size 9 [(true, 0), (true, 1), (true, 2), (true, 3), (true, 4), (true, 5), (true, 7), (true, 8), (false, 6)] (by kernel_rfl) (by kernel_rfl) (fun _ _ d _ _ h => by cases d <;> exact h) ?_
      have hb : Below W1_.heap.size W1_ W1_.drew := (Below.refl _ _).drew
      iterate 8
        refine wpS_takeL rfl rfl ?_
        go_big_quiet_step (rfl)
        refine wpQuiet_nil ?_
      refine wpS_doL rfl ?_
      intro K hK
      go_wp2_with ((go_at_call 96; (with_reducible refine (At15_is ax ay bx b_y (PF1.N (i.toNat)) (PF1.D (i.toNat)) r2 r3 r4 Hr2.out Hr3.out Hr4.out _iax _iay _ibx _ib_y (PF1.b (i.toNat)) (PF1.a (i.toNat)) (PF1.q (i.toNat)) (PF1.c (i.toNat)) (PF1.b2 (i.toNat)) (PF1.a2 (i.toNat)) (PF1.q2 (i.toNat)) (PF1.c2 (i.toNat)) _ ((RS.num (HB1.out.of hb) _ (ixlt (HI1.out.1.ix hz1))).mono (by decide)) ((RS.den (HB1.out.of hb) _ (ixlt (HI1.out.1.ix hz1))).mono (by decide))).mono ?_); rintro e w2 ⟨bn6, ba6, bl6, bc6, bn7, ba7, bl7, bc7, bn8, ba8, bl8, bc8, rfl, hbm6, hbm7, hbm8, hn⟩; have HB6 := Lib.hid hbm6; have HB7 := Lib.hid hbm7; have HB8 := Lib.hid hbm8; clear hbm6 hbm7 hbm8))
      replace hb := hb.trans (hn.mono hb.size)
      refine hK.out _ _ (up_iff.2 hb) ?_
      clear hK K
      clear hn
      refine wpS_nil ?_
      simp only [List.drop_succ_cons, List.drop_zero]
      first | refine calls_w ?_ | refine name_world ?_ | refine list_world ?_ | refine post_world ?_
      intro U5 hU5
      first | (subst hU5; have u_ := U5; clear u_) | (rw [← hU5] at hb; clear hU5)
      clear c1_0 c1_1 l1 c2_0 c2_1 l2 c3_0 c3_1 l3 ea0 eb0 el0 ec0_0 ec0_1 ec0_2 ec0_3
      have k1 := Kk1.out.of hb
      clear Kk1
      have k2 := Kk2.out.of hb
      clear Kk2
      have k3 := Kk3.out.of hb
      clear Kk3
      have k4 := Kk4.out.of hb
      clear Kk4
      have k5 := Kk5.out.of hb
      clear Kk5
      replace HB1 := Lib.hid (HB1.out.of hb)
      replace HB2 := Lib.hid (HB2.out.of hb)
      replace HB3 := Lib.hid (HB3.out.of hb)
      replace HB4 := Lib.hid (HB4.out.of hb)
      replace HB5 := Lib.hid (HB5.out.of hb)
      replace hb0 := hb0.trans (hb.mono hb0.size)
      clear hb
      go_wp2_with fail
      obtain ⟨z5, hz5⟩ : ∃ o_o : Bool, rin15L r2 r3 r4 cx cy n = o_o := ⟨_, rfl⟩
      have Hz5 := Lib.hid hz5
      clear hz5
      refine (rInL_is r2 r3 r4 cx cy n z5 Hz5.out _icx _icy _in bn6 ba6 bl6 bc6 bn7 ba7 bl7 bc7 bn8 ba8 bl8 bc8 _ (HB6.out.mono (by decide)) (HB7.out.mono (by decide)) (HB8.out.mono (by decide))).mono ?_
      rintro e U6 ⟨rfl, hn⟩
      replace k1 := k1.of hn
      replace k2 := k2.of hn
      replace k3 := k3.of hn
      replace k4 := k4.of hn
      replace k5 := k5.of hn
      replace HB1 := Lib.hid (HB1.out.of hn)
      replace HB2 := Lib.hid (HB2.out.of hn)
      replace HB3 := Lib.hid (HB3.out.of hn)
      replace HB4 := Lib.hid (HB4.out.of hn)
      replace HB5 := Lib.hid (HB5.out.of hn)
      replace HB6 := Lib.hid (HB6.out.of hn)
      replace HB7 := Lib.hid (HB7.out.of hn)
      replace HB8 := Lib.hid (HB8.out.of hn)
      replace hb0 := hb0.trans (hn.mono hb0.size)
      clear hn
      cases z5
      · go_wp2_with fail
        obtain ⟨z6, hz6⟩ : ∃ o_o : Bool, decide ((i + 1) < (pn1 : Int)) = o_o := ⟨_, rfl⟩
        cases z6
        · have xw0 : (wrap64 (i + 1)) = (i + 1) := (HI1.out.1.w HM1.out)
          have Kk1 := Lib.hid k1
          clear k1
          have Kk2 := Lib.hid k2
          clear k2
          have Kk3 := Lib.hid k3
          clear k3
          have Kk4 := Lib.hid k4
          clear k4
          have Kk5 := Lib.hid k5
          clear k5
          refine wp_region_up U6.heap.size 21 [(true, 0), (true, 1), (true, 2), (false, 3), (true, 4), (true, 5), (true, 6), (true, 7), (true, 8), (true, 9), (true, 10), (true, 11), (true, 12), (true, 13), (true, 14), (true, 15), (true, 16), (true, 19), (true, 20), (false, 17), (false, 18)] (by kernel_rfl) (by kernel_rfl) (fun _ _ d _ _ h => by cases d <;> exact h) ?_
          have hb : Below U6.heap.size U6 U6.drew := (Below.refl _ _).drew
          iterate 3
            refine wpS_takeL rfl rfl ?_
            go_big_quiet_step (rfl)
            refine wpQuiet_nil ?_
          refine wpS_doL rfl ?_
          intro K hK
          go_wp2_with (fail)
          try replace hb := hb.trans (hn.mono hb.size)
          refine hK.out _ _ (up_iff.2 hb) ?_
          clear hK K
          try clear hn
          iterate 15
            refine wpS_takeL rfl rfl ?_
            go_big_quiet_step (rfl)
            refine wpQuiet_nil ?_
          refine wpS_doL rfl ?_
          intro K hK
          go_wp2_with (fail)
          try replace hb := hb.trans (hn.mono hb.size)
          refine hK.out _ _ (up_iff.2 hb) ?_
          clear hK K
          try clear hn
          refine wpS_doL rfl ?_
          intro K hK
          go_wp2_with (fail)
          try replace hb := hb.trans (hn.mono hb.size)
          refine hK.out _ _ (up_iff.2 hb) ?_
          clear hK K
          try clear hn
          refine wpS_nil ?_
          simp only [List.drop_succ_cons, List.drop_zero]
          first | refine calls_w ?_ | refine name_world ?_ | refine list_world ?_ | refine post_world ?_
          intro U7 hU7
          first | (subst hU7; have u_ := U7; clear u_) | (rw [← hU7] at hb; clear hU7)
          clear xw0
          have k1 := Kk1.out.of hb
          clear Kk1
          have k2 := Kk2.out.of hb
          clear Kk2
          have k3 := Kk3.out.of hb
          clear Kk3
          have k4 := Kk4.out.of hb
          clear Kk4
          have k5 := Kk5.out.of hb
          clear Kk5
          replace HB1 := Lib.hid (HB1.out.of hb)
          replace HB2 := Lib.hid (HB2.out.of hb)
          replace HB3 := Lib.hid (HB3.out.of hb)
          replace HB4 := Lib.hid (HB4.out.of hb)
          replace HB5 := Lib.hid (HB5.out.of hb)
          replace HB6 := Lib.hid (HB6.out.of hb)
          replace HB7 := Lib.hid (HB7.out.of hb)
          replace HB8 := Lib.hid (HB8.out.of hb)
          replace hb0 := hb0.trans (hb.mono hb0.size)
          clear hb
          have xw0 : (wrap64 (i + 1)) = (i + 1) := (HI1.out.1.w HM1.out)
          go_wp2_with fail
          clear xw0
          have HIn : CuI ax ay bx b_y cx cy n PF1 pn1 (i + 1) ⟨ss, fN, fD, tN, tD, so, su⟩ ∧ pn1 - (i + 1).toNat ≤ ((pn1 - ((i + 1)).toNat) : Nat) := by
            exact ⟨CuI.last HI1.out.1 hz1 hz6 (by have p1 := PC_v Hr2.out Hr3.out Hr4.out Hz5.out; unfold hitF; simp only [p1, cond_true, cond_false]), by have := HI1.out.2; have := of_decide_eq_true hz1; have := HI1.out.1.1; omega⟩
          try rw [show (wrap64 (i + 1)) = (i + 1) from (HI1.out.1.w HM1.out)]
          go_roundg (pn1 - ((i + 1)).toNat)
          case measure =>
            have q_ := of_decide_eq_true hz1
            have q2_ := HI1.out.2
            have q3_ := HI1.out.1.1
            omega
          case rel => exact ⟨(i + 1), fN, fD, tN, tD, so, su, ss, nA, aA, lA, cA, nB, aB, lB, cB, nC, aC, lC, cC, nE, aE, lE, cE, rfl, Lib.hid HIn, k1, k2, k3, k4, k5, HB1.out, HB2.out, HB3.out, HB4.out, HB5.out, hb0⟩
        · obtain ⟨r7, hr7⟩ : ∃ o_o : Int, mdN (PF1.N (i.toNat)) (PF1.D (i.toNat)) (PF1.N ((i + 1).toNat)) (PF1.D ((i + 1).toNat)) = o_o := ⟨_, rfl⟩
          have Hr7 := Lib.hid hr7
          clear hr7
          obtain ⟨r8, hr8⟩ : ∃ o_o : Int, mdD (PF1.N (i.toNat)) (PF1.D (i.toNat)) (PF1.N ((i + 1).toNat)) (PF1.D ((i + 1).toNat)) = o_o := ⟨_, rfl⟩
          have Hr8 := Lib.hid hr8
          clear hr8
          obtain ⟨r9, hr9⟩ : ∃ o_o : Int, a15X ax ay bx b_y r7 r8 = o_o := ⟨_, rfl⟩
          have Hr9 := Lib.hid hr9
          clear hr9
          obtain ⟨r10, hr10⟩ : ∃ o_o : Int, a15Y ax ay bx b_y r7 r8 = o_o := ⟨_, rfl⟩
          have Hr10 := Lib.hid hr10
          clear hr10
          obtain ⟨r11, hr11⟩ : ∃ o_o : Int, a15W ax ay bx b_y r7 r8 = o_o := ⟨_, rfl⟩
          have Hr11 := Lib.hid hr11
          clear hr11
          have c1_0 : U6.cell? ⟨w.heap.size, 0, none⟩ = some (.int .i64 ax) := k1.cell 0
          have c1_1 : U6.cell? ⟨w.heap.size, 1, none⟩ = some (.int .i64 ay) := k1.cell 1
          have l1 := k1.lt
          have c2_0 : U6.cell? ⟨(w.heap.size + 1), 0, none⟩ = some (.int .i64 bx) := k2.cell 0
          have c2_1 : U6.cell? ⟨(w.heap.size + 1), 1, none⟩ = some (.int .i64 b_y) := k2.cell 1
          have l2 := k2.lt
          have c3_0 : U6.cell? ⟨(w.heap.size + 1 + 1), 0, none⟩ = some (.int .i64 cx) := k3.cell 0
          have c3_1 : U6.cell? ⟨(w.heap.size + 1 + 1), 1, none⟩ = some (.int .i64 cy) := k3.cell 1
          have l3 := k3.lt
          have xw0 : (wrap64 (i + 1)) = (i + 1) := (HI1.out.1.w HM1.out)
          have ea0 : (0 : Int) ≤ i := ((HI1.out.1.ix hz1)).1
          have eb0 : (i : Int) < (pn1 : Int) := ((HI1.out.1.ix hz1)).2
          have el0 := RS.lt HB1.out
          have ec0_0 : U6.cell? ⟨pg1, i.toNat * 4, none⟩ = some (.bool (PF1.b (i.toNat))) := RS.c0 HB1.out (ixlt (HI1.out.1.ix hz1))
          have ec0_1 : U6.cell? ⟨pg1, i.toNat * 4 + 1, none⟩ = some (.slice (PF1.a (i.toNat)) (PF1.q (i.toNat)) (PF1.c (i.toNat))) := RS.c1 HB1.out (ixlt (HI1.out.1.ix hz1))
          have ec0_2 : U6.cell? ⟨pg1, i.toNat * 4 + 2, none⟩ = some (.bool (PF1.b2 (i.toNat))) := RS.c2 HB1.out (ixlt (HI1.out.1.ix hz1))
          have ec0_3 : U6.cell? ⟨pg1, i.toNat * 4 + 3, none⟩ = some (.slice (PF1.a2 (i.toNat)) (PF1.q2 (i.toNat)) (PF1.c2 (i.toNat))) := RS.c3 HB1.out (ixlt (HI1.out.1.ix hz1))
          have ea1 : (0 : Int) ≤ (i + 1) := ((HI1.out.1.ix1 hz6)).1
          have eb1 : ((i + 1) : Int) < (pn1 : Int) := ((HI1.out.1.ix1 hz6)).2
          have el1 := RS.lt HB1.out
          have ec1_0 : U6.cell? ⟨pg1, (i + 1).toNat * 4, none⟩ = some (.bool (PF1.b ((i + 1).toNat))) := RS.c0 HB1.out (ixlt (HI1.out.1.ix1 hz6))
          have ec1_1 : U6.cell? ⟨pg1, (i + 1).toNat * 4 + 1, none⟩ = some (.slice (PF1.a ((i + 1).toNat)) (PF1.q ((i + 1).toNat)) (PF1.c ((i + 1).toNat))) := RS.c1 HB1.out (ixlt (HI1.out.1.ix1 hz6))
          have ec1_2 : U6.cell? ⟨pg1, (i + 1).toNat * 4 + 2, none⟩ = some (.bool (PF1.b2 ((i + 1).toNat))) := RS.c2 HB1.out (ixlt (HI1.out.1.ix1 hz6))
          have ec1_3 : U6.cell? ⟨pg1, (i + 1).toNat * 4 + 3, none⟩ = some (.slice (PF1.a2 ((i + 1).toNat)) (PF1.q2 ((i + 1).toNat)) (PF1.c2 ((i + 1).toNat))) := RS.c3 HB1.out (ixlt (HI1.out.1.ix1 hz6))
          have Kk1 := Lib.hid k1
          clear k1
          have Kk2 := Lib.hid k2
          clear k2
          have Kk3 := Lib.hid k3
          clear k3
          have Kk4 := Lib.hid k4
          clear k4
          have Kk5 := Lib.hid k5
          clear k5
          refine wp_region_up U6.heap.size 21 [(true, 0), (true, 1), (true, 2), (false, 3), (true, 4), (true, 5), (true, 6), (true, 7), (true, 8), (true, 9), (true, 10), (true, 11), (true, 12), (true, 13), (true, 14), (true, 15), (true, 16), (true, 19), (true, 20), (false, 17), (false, 18)] (by kernel_rfl) (by kernel_rfl) (fun _ _ d _ _ h => by cases d <;> exact h) ?_
          have hb : Below U6.heap.size U6 U6.drew := (Below.refl _ _).drew
          iterate 3
            refine wpS_takeL rfl rfl ?_
            go_big_quiet_step (rfl)
            refine wpQuiet_nil ?_
          refine wpS_doL rfl ?_
          intro K hK
          go_wp2_with ((first | (go_at_call 97; (with_reducible refine (Mid15_is (PF1.N (i.toNat)) (PF1.D (i.toNat)) (PF1.N ((i + 1).toNat)) (PF1.D ((i + 1).toNat)) r7 r8 Hr7.out Hr8.out  (PF1.b (i.toNat)) (PF1.a (i.toNat)) (PF1.q (i.toNat)) (PF1.c (i.toNat)) (PF1.b2 (i.toNat)) (PF1.a2 (i.toNat)) (PF1.q2 (i.toNat)) (PF1.c2 (i.toNat)) (PF1.b ((i + 1).toNat)) (PF1.a ((i + 1).toNat)) (PF1.q ((i + 1).toNat)) (PF1.c ((i + 1).toNat)) (PF1.b2 ((i + 1).toNat)) (PF1.a2 ((i + 1).toNat)) (PF1.q2 ((i + 1).toNat)) (PF1.c2 ((i + 1).toNat)) _ (RS.num (HB1.out.of hb) _ (ixlt (HI1.out.1.ix hz1))) (RS.den (HB1.out.of hb) _ (ixlt (HI1.out.1.ix hz1))) (RS.num (HB1.out.of hb) _ (ixlt (HI1.out.1.ix1 hz6))) (RS.den (HB1.out.of hb) _ (ixlt (HI1.out.1.ix1 hz6)))).mono ?_); rintro e w2 ⟨bn9, ba9, bl9, bc9, bn10, ba10, bl10, bc10, rfl, hbm9, hbm10, hn⟩; have HB9 := Lib.hid hbm9; have HB10 := Lib.hid hbm10; clear hbm9 hbm10) | (go_at_call 96; (with_reducible refine (At15_is ax ay bx b_y r7 r8 r9 r10 r11 Hr9.out Hr10.out Hr11.out _iax _iay _ibx _ib_y bn9 ba9 bl9 bc9 bn10 ba10 bl10 bc10 _ (HB9.out.mono (by decide)) (HB10.out.mono (by decide))).mono ?_); rintro e w2 ⟨bn11, ba11, bl11, bc11, bn12, ba12, bl12, bc12, bn13, ba13, bl13, bc13, rfl, hbm11, hbm12, hbm13, hn⟩; replace HB9 := Lib.hid (HB9.out.of hn); replace HB10 := Lib.hid (HB10.out.of hn); have HB11 := Lib.hid hbm11; have HB12 := Lib.hid hbm12; have HB13 := Lib.hid hbm13; clear hbm11 hbm12 hbm13)))
          try replace hb := hb.trans (hn.mono hb.size)
          refine hK.out _ _ (up_iff.2 hb) ?_
          clear hK K
          try clear hn
          iterate 15
            refine wpS_takeL rfl rfl ?_
            go_big_quiet_step (rfl)
            refine wpQuiet_nil ?_
          refine wpS_doL rfl ?_
          intro K hK
          go_wp2_with ((go_at_call 97; (with_reducible refine (Mid15_is (PF1.N (i.toNat)) (PF1.D (i.toNat)) (PF1.N ((i + 1).toNat)) (PF1.D ((i + 1).toNat)) r7 r8 Hr7.out Hr8.out  (PF1.b (i.toNat)) (PF1.a (i.toNat)) (PF1.q (i.toNat)) (PF1.c (i.toNat)) (PF1.b2 (i.toNat)) (PF1.a2 (i.toNat)) (PF1.q2 (i.toNat)) (PF1.c2 (i.toNat)) (PF1.b ((i + 1).toNat)) (PF1.a ((i + 1).toNat)) (PF1.q ((i + 1).toNat)) (PF1.c ((i + 1).toNat)) (PF1.b2 ((i + 1).toNat)) (PF1.a2 ((i + 1).toNat)) (PF1.q2 ((i + 1).toNat)) (PF1.c2 ((i + 1).toNat)) _ (RS.num (HB1.out.of hb) _ (ixlt (HI1.out.1.ix hz1))) (RS.den (HB1.out.of hb) _ (ixlt (HI1.out.1.ix hz1))) (RS.num (HB1.out.of hb) _ (ixlt (HI1.out.1.ix1 hz6))) (RS.den (HB1.out.of hb) _ (ixlt (HI1.out.1.ix1 hz6)))).mono ?_); rintro e w2 ⟨bn9, ba9, bl9, bc9, bn10, ba10, bl10, bc10, rfl, hbm9, hbm10, hn⟩; have HB9 := Lib.hid hbm9; have HB10 := Lib.hid hbm10; clear hbm9 hbm10))
          try replace hb := hb.trans (hn.mono hb.size)
          refine hK.out _ _ (up_iff.2 hb) ?_
          clear hK K
          try clear hn
          refine wpS_doL rfl ?_
          intro K hK
          go_wp2_with ((go_at_call 96; (with_reducible refine (At15_is ax ay bx b_y r7 r8 r9 r10 r11 Hr9.out Hr10.out Hr11.out _iax _iay _ibx _ib_y bn9 ba9 bl9 bc9 bn10 ba10 bl10 bc10 _ (HB9.out.mono (by decide)) (HB10.out.mono (by decide))).mono ?_); rintro e w2 ⟨bn11, ba11, bl11, bc11, bn12, ba12, bl12, bc12, bn13, ba13, bl13, bc13, rfl, hbm11, hbm12, hbm13, hn⟩; replace HB9 := Lib.hid (HB9.out.of hn); replace HB10 := Lib.hid (HB10.out.of hn); have HB11 := Lib.hid hbm11; have HB12 := Lib.hid hbm12; have HB13 := Lib.hid hbm13; clear hbm11 hbm12 hbm13))
          try replace hb := hb.trans (hn.mono hb.size)
          refine hK.out _ _ (up_iff.2 hb) ?_
          clear hK K
          try clear hn
          refine wpS_nil ?_
          simp only [List.drop_succ_cons, List.drop_zero]
          first | refine calls_w ?_ | refine name_world ?_ | refine list_world ?_ | refine post_world ?_
          intro U8 hU8
          first | (subst hU8; have u_ := U8; clear u_) | (rw [← hU8] at hb; clear hU8)
          clear c1_0 c1_1 l1 c2_0 c2_1 l2 c3_0 c3_1 l3 xw0 ea0 eb0 el0 ec0_0 ec0_1 ec0_2 ec0_3 ea1 eb1 el1 ec1_0 ec1_1 ec1_2 ec1_3
          have k1 := Kk1.out.of hb
          clear Kk1
          have k2 := Kk2.out.of hb
          clear Kk2
          have k3 := Kk3.out.of hb
          clear Kk3
          have k4 := Kk4.out.of hb
          clear Kk4
          have k5 := Kk5.out.of hb
          clear Kk5
          replace HB1 := Lib.hid (HB1.out.of hb)
          replace HB2 := Lib.hid (HB2.out.of hb)
          replace HB3 := Lib.hid (HB3.out.of hb)
          replace HB4 := Lib.hid (HB4.out.of hb)
          replace HB5 := Lib.hid (HB5.out.of hb)
          replace HB6 := Lib.hid (HB6.out.of hb)
          replace HB7 := Lib.hid (HB7.out.of hb)
          replace HB8 := Lib.hid (HB8.out.of hb)
          replace hb0 := hb0.trans (hb.mono hb0.size)
          clear hb
          go_wp2_with fail
          obtain ⟨z12, hz12⟩ : ∃ o_o : Bool, rin15L r9 r10 r11 cx cy n = o_o := ⟨_, rfl⟩
          have Hz12 := Lib.hid hz12
          clear hz12
          refine (rInL_is r9 r10 r11 cx cy n z12 Hz12.out _icx _icy _in bn11 ba11 bl11 bc11 bn12 ba12 bl12 bc12 bn13 ba13 bl13 bc13 _ (HB11.out.mono (by decide)) (HB12.out.mono (by decide)) (HB13.out.mono (by decide))).mono ?_
          rintro e U9 ⟨rfl, hn⟩
          replace k1 := k1.of hn
          replace k2 := k2.of hn
          replace k3 := k3.of hn
          replace k4 := k4.of hn
          replace k5 := k5.of hn
          replace HB1 := Lib.hid (HB1.out.of hn)
          replace HB2 := Lib.hid (HB2.out.of hn)
          replace HB3 := Lib.hid (HB3.out.of hn)
          replace HB4 := Lib.hid (HB4.out.of hn)
          replace HB5 := Lib.hid (HB5.out.of hn)
          replace HB6 := Lib.hid (HB6.out.of hn)
          replace HB7 := Lib.hid (HB7.out.of hn)
          replace HB8 := Lib.hid (HB8.out.of hn)
          replace HB9 := Lib.hid (HB9.out.of hn)
          replace HB10 := Lib.hid (HB10.out.of hn)
          replace HB11 := Lib.hid (HB11.out.of hn)
          replace HB12 := Lib.hid (HB12.out.of hn)
          replace HB13 := Lib.hid (HB13.out.of hn)
          replace hb0 := hb0.trans (hn.mono hb0.size)
          clear hn
          cases z12
          · have xw0 : (wrap64 (i + 1)) = (i + 1) := (HI1.out.1.w HM1.out)
            go_wp2_with fail
            clear xw0
            have HIn : CuI ax ay bx b_y cx cy n PF1 pn1 (i + 1) ⟨ss, fN, fD, tN, tD, so, su⟩ ∧ pn1 - (i + 1).toNat ≤ ((pn1 - ((i + 1)).toNat) : Nat) := by
              first
                | (exact ⟨CuI.more HI1.out.1 hz1 hz6 (by have p1 := PC_v Hr2.out Hr3.out Hr4.out Hz5.out; have p2 := PM_v Hr7.out Hr8.out Hr9.out Hr10.out Hr11.out Hz12.out; unfold midF hitF; simp only [p1, p2, cond_true, cond_false]), by have := HI1.out.2; have := of_decide_eq_true hz1; have := HI1.out.1.1; omega⟩)
                | (exact ⟨CuI.last HI1.out.1 hz1 hz6 (by have p1 := PC_v Hr2.out Hr3.out Hr4.out Hz5.out; unfold hitF; simp only [p1, cond_true, cond_false]), by have := HI1.out.2; have := of_decide_eq_true hz1; have := HI1.out.1.1; omega⟩)
            try rw [show (wrap64 (i + 1)) = (i + 1) from (HI1.out.1.w HM1.out)]
            go_roundg (pn1 - ((i + 1)).toNat)
            case measure =>
              have q_ := of_decide_eq_true hz1
              have q2_ := HI1.out.2
              have q3_ := HI1.out.1.1
              omega
            case rel => exact ⟨(i + 1), fN, fD, tN, tD, so, su, ss, nA, aA, lA, cA, nB, aB, lB, cB, nC, aC, lC, cC, nE, aE, lE, cE, rfl, Lib.hid HIn, k1, k2, k3, k4, k5, HB1.out, HB2.out, HB3.out, HB4.out, HB5.out, hb0⟩
          · cases ss
            · have c5_0 : U9.cell? ⟨U2.heap.size, 0, none⟩ = some (.bool nA) := k5.cell 0
              have c5_1 : U9.cell? ⟨U2.heap.size, 1, none⟩ = some (.slice aA lA cA) := k5.cell 1
              have c5_2 : U9.cell? ⟨U2.heap.size, 2, none⟩ = some (.bool nB) := k5.cell 2
              have c5_3 : U9.cell? ⟨U2.heap.size, 3, none⟩ = some (.slice aB lB cB) := k5.cell 3
              have c5_4 : U9.cell? ⟨U2.heap.size, 4, none⟩ = some (.bool nC) := k5.cell 4
              have c5_5 : U9.cell? ⟨U2.heap.size, 5, none⟩ = some (.slice aC lC cC) := k5.cell 5
              have c5_6 : U9.cell? ⟨U2.heap.size, 6, none⟩ = some (.bool nE) := k5.cell 6
              have c5_7 : U9.cell? ⟨U2.heap.size, 7, none⟩ = some (.slice aE lE cE) := k5.cell 7
              have c5_8 : U9.cell? ⟨U2.heap.size, 8, none⟩ = some (.bool so) := k5.cell 8
              have c5_9 : U9.cell? ⟨U2.heap.size, 9, none⟩ = some (.bool su) := k5.cell 9
              have c5_10 : U9.cell? ⟨U2.heap.size, 10, none⟩ = some (.bool false) := k5.cell 10
              have f5_0 := k5.free 0
              have f5_1 := k5.free 1
              have f5_2 := k5.free 2
              have f5_3 := k5.free 3
              have f5_4 := k5.free 4
              have f5_5 := k5.free 5
              have f5_6 := k5.free 6
              have f5_7 := k5.free 7
              have f5_8 := k5.free 8
              have f5_9 := k5.free 9
              have f5_10 := k5.free 10
              have l5 := k5.lt
              have xw0 : (wrap64 (i + 1)) = (i + 1) := (HI1.out.1.w HM1.out)
              have ea0 : (0 : Int) ≤ i := ((HI1.out.1.ix hz1)).1
              have eb0 : (i : Int) < (pn1 : Int) := ((HI1.out.1.ix hz1)).2
              have el0 := RS.lt HB1.out
              have ec0_0 : U9.cell? ⟨pg1, i.toNat * 4, none⟩ = some (.bool (PF1.b (i.toNat))) := RS.c0 HB1.out (ixlt (HI1.out.1.ix hz1))
              have ec0_1 : U9.cell? ⟨pg1, i.toNat * 4 + 1, none⟩ = some (.slice (PF1.a (i.toNat)) (PF1.q (i.toNat)) (PF1.c (i.toNat))) := RS.c1 HB1.out (ixlt (HI1.out.1.ix hz1))
              have ec0_2 : U9.cell? ⟨pg1, i.toNat * 4 + 2, none⟩ = some (.bool (PF1.b2 (i.toNat))) := RS.c2 HB1.out (ixlt (HI1.out.1.ix hz1))
              have ec0_3 : U9.cell? ⟨pg1, i.toNat * 4 + 3, none⟩ = some (.slice (PF1.a2 (i.toNat)) (PF1.q2 (i.toNat)) (PF1.c2 (i.toNat))) := RS.c3 HB1.out (ixlt (HI1.out.1.ix hz1))
              have ea1 : (0 : Int) ≤ (i + 1) := ((HI1.out.1.ix1 hz6)).1
              have eb1 : ((i + 1) : Int) < (pn1 : Int) := ((HI1.out.1.ix1 hz6)).2
              have el1 := RS.lt HB1.out
              have ec1_0 : U9.cell? ⟨pg1, (i + 1).toNat * 4, none⟩ = some (.bool (PF1.b ((i + 1).toNat))) := RS.c0 HB1.out (ixlt (HI1.out.1.ix1 hz6))
              have ec1_1 : U9.cell? ⟨pg1, (i + 1).toNat * 4 + 1, none⟩ = some (.slice (PF1.a ((i + 1).toNat)) (PF1.q ((i + 1).toNat)) (PF1.c ((i + 1).toNat))) := RS.c1 HB1.out (ixlt (HI1.out.1.ix1 hz6))
              have ec1_2 : U9.cell? ⟨pg1, (i + 1).toNat * 4 + 2, none⟩ = some (.bool (PF1.b2 ((i + 1).toNat))) := RS.c2 HB1.out (ixlt (HI1.out.1.ix1 hz6))
              have ec1_3 : U9.cell? ⟨pg1, (i + 1).toNat * 4 + 3, none⟩ = some (.slice (PF1.a2 ((i + 1).toNat)) (PF1.q2 ((i + 1).toNat)) (PF1.c2 ((i + 1).toNat))) := RS.c3 HB1.out (ixlt (HI1.out.1.ix1 hz6))
              have en0_5 := rs_ne HB1.out k5 (by decide)
              have em0_5 := en0_5.symm
              go_wp2_with fail
              clear c5_0 c5_1 c5_2 c5_3 c5_4 c5_5 c5_6 c5_7 c5_8 c5_9 c5_10 f5_0 f5_1 f5_2 f5_3 f5_4 f5_5 f5_6 f5_7 f5_8 f5_9 f5_10 l5 xw0 ea0 eb0 el0 ec0_0 ec0_1 ec0_2 ec0_3 ea1 eb1 el1 ec1_0 ec1_1 ec1_2 ec1_3 en0_5 em0_5
              first | refine k_world ?_
              intro V10 hV10
              clear HB2 HB3 HB4 HB5
              have hs_ : V10 = (setL (setL (setL (setL (setL U9 U2.heap.size 0 [.bool (PF1.b (i.toNat)), .slice (PF1.a (i.toNat)) (PF1.q (i.toNat)) (PF1.c (i.toNat)), .bool (PF1.b2 (i.toNat)), .slice (PF1.a2 (i.toNat)) (PF1.q2 (i.toNat)) (PF1.c2 (i.toNat))]) U2.heap.size 8 [.bool true]) U2.heap.size 10 [.bool true]) U2.heap.size 4 [.bool (PF1.b ((i + 1).toNat)), .slice (PF1.a ((i + 1).toNat)) (PF1.q ((i + 1).toNat)) (PF1.c ((i + 1).toNat)), .bool (PF1.b2 ((i + 1).toNat)), .slice (PF1.a2 ((i + 1).toNat)) (PF1.q2 ((i + 1).toNat)) (PF1.c2 ((i + 1).toNat))]) U2.heap.size 9 [.bool true]) := hV10
              clear hV10
              obtain ⟨V11, hV11⟩ : ∃ v_ : World, v_ = setL U9 U2.heap.size 0 [.bool (PF1.b (i.toNat)), .slice (PF1.a (i.toNat)) (PF1.q (i.toNat)) (PF1.c (i.toNat)), .bool (PF1.b2 (i.toNat)), .slice (PF1.a2 (i.toNat)) (PF1.q2 (i.toNat)) (PF1.c2 (i.toNat))] := ⟨_, rfl⟩
              rw [← hV11] at hs_
              have D8 := Lib.hid k1.lt
              have D9 := Lib.hid k2.lt
              have D10 := Lib.hid k3.lt
              have D11 := Lib.hid k4.lt
              have D12 := Lib.hid k5.lt
              have D13 := Lib.hid hb0.size
              have nk1 : Blk V11 w.heap.size #[.int .i64 ax, .int .i64 ay] 31 := by rw [hV11]; exact (blk_setL k1 (by have := D1.out; omega) 0 [.bool (PF1.b (i.toNat)), .slice (PF1.a (i.toNat)) (PF1.q (i.toNat)) (PF1.c (i.toNat)), .bool (PF1.b2 (i.toNat)), .slice (PF1.a2 (i.toNat)) (PF1.q2 (i.toNat)) (PF1.c2 (i.toNat))])
              have nk2 : Blk V11 (w.heap.size + 1) #[.int .i64 bx, .int .i64 b_y] 31 := by rw [hV11]; exact (blk_setL k2 (by have := D2.out; omega) 0 [.bool (PF1.b (i.toNat)), .slice (PF1.a (i.toNat)) (PF1.q (i.toNat)) (PF1.c (i.toNat)), .bool (PF1.b2 (i.toNat)), .slice (PF1.a2 (i.toNat)) (PF1.q2 (i.toNat)) (PF1.c2 (i.toNat))])
              have nk3 : Blk V11 (w.heap.size + 1 + 1) #[.int .i64 cx, .int .i64 cy] 31 := by rw [hV11]; exact (blk_setL k3 (by have := D3.out; omega) 0 [.bool (PF1.b (i.toNat)), .slice (PF1.a (i.toNat)) (PF1.q (i.toNat)) (PF1.c (i.toNat)), .bool (PF1.b2 (i.toNat)), .slice (PF1.a2 (i.toNat)) (PF1.q2 (i.toNat)) (PF1.c2 (i.toNat))])
              have nk4 : Blk V11 (w.heap.size + 1 + 1 + 1) #[.bool false, .slice none 0 0, .bool false, .slice none 0 0, .bool false, .slice none 0 0, .bool false, .slice none 0 0, .bool false, .bool false, .bool false] 62 := by rw [hV11]; exact (blk_setL k4 (by have := D4.out; omega) 0 [.bool (PF1.b (i.toNat)), .slice (PF1.a (i.toNat)) (PF1.q (i.toNat)) (PF1.c (i.toNat)), .bool (PF1.b2 (i.toNat)), .slice (PF1.a2 (i.toNat)) (PF1.q2 (i.toNat)) (PF1.c2 (i.toNat))])
              have nk5 : Blk V11 U2.heap.size #[.bool (PF1.b (i.toNat)), .slice (PF1.a (i.toNat)) (PF1.q (i.toNat)) (PF1.c (i.toNat)), .bool (PF1.b2 (i.toNat)), .slice (PF1.a2 (i.toNat)) (PF1.q2 (i.toNat)) (PF1.c2 (i.toNat)), .bool nC, .slice aC lC cC, .bool nE, .slice aE lE cE, .bool so, .bool su, .bool false] 62 := by rw [hV11]; exact (blk_putL k5 0 [.bool (PF1.b (i.toNat)), .slice (PF1.a (i.toNat)) (PF1.q (i.toNat)) (PF1.c (i.toNat)), .bool (PF1.b2 (i.toNat)), .slice (PF1.a2 (i.toNat)) (PF1.q2 (i.toNat)) (PF1.c2 (i.toNat))])
              have nhb0 : Below w.heap.size w V11 := by rw [hV11]; exact (blw_setL hb0 (by have := D5.out; omega) 0 [.bool (PF1.b (i.toNat)), .slice (PF1.a (i.toNat)) (PF1.q (i.toNat)) (PF1.c (i.toNat)), .bool (PF1.b2 (i.toNat)), .slice (PF1.a2 (i.toNat)) (PF1.q2 (i.toNat)) (PF1.c2 (i.toNat))])
              replace HB1 : Hid (RS V11 pg1 pc1 pn1 PF1) := Lib.hid (by rw [hV11]; exact (rs_setL HB1.out k5 (by decide) (Blk.cell k5 0) (fun _ h => by cases h) 0 [.bool (PF1.b (i.toNat)), .slice (PF1.a (i.toNat)) (PF1.q (i.toNat)) (PF1.c (i.toNat)), .bool (PF1.b2 (i.toNat)), .slice (PF1.a2 (i.toNat)) (PF1.q2 (i.toNat)) (PF1.c2 (i.toNat))]))
              replace HB6 : Hid (Big V11 (.agg #[.bool bn6, .slice ba6 bl6 bc6]) r2 46) := Lib.hid (by rw [hV11]; exact (big_setL HB6.out (Blk.cell k5 0) (fun _ h => by cases h) 0 [.bool (PF1.b (i.toNat)), .slice (PF1.a (i.toNat)) (PF1.q (i.toNat)) (PF1.c (i.toNat)), .bool (PF1.b2 (i.toNat)), .slice (PF1.a2 (i.toNat)) (PF1.q2 (i.toNat)) (PF1.c2 (i.toNat))]))
              replace HB7 : Hid (Big V11 (.agg #[.bool bn7, .slice ba7 bl7 bc7]) r3 46) := Lib.hid (by rw [hV11]; exact (big_setL HB7.out (Blk.cell k5 0) (fun _ h => by cases h) 0 [.bool (PF1.b (i.toNat)), .slice (PF1.a (i.toNat)) (PF1.q (i.toNat)) (PF1.c (i.toNat)), .bool (PF1.b2 (i.toNat)), .slice (PF1.a2 (i.toNat)) (PF1.q2 (i.toNat)) (PF1.c2 (i.toNat))]))
              replace HB8 : Hid (Big V11 (.agg #[.bool bn8, .slice ba8 bl8 bc8]) r4 40) := Lib.hid (by rw [hV11]; exact (big_setL HB8.out (Blk.cell k5 0) (fun _ h => by cases h) 0 [.bool (PF1.b (i.toNat)), .slice (PF1.a (i.toNat)) (PF1.q (i.toNat)) (PF1.c (i.toNat)), .bool (PF1.b2 (i.toNat)), .slice (PF1.a2 (i.toNat)) (PF1.q2 (i.toNat)) (PF1.c2 (i.toNat))]))
              replace HB9 : Hid (Big V11 (.agg #[.bool bn9, .slice ba9 bl9 bc9]) r7 37) := Lib.hid (by rw [hV11]; exact (big_setL HB9.out (Blk.cell k5 0) (fun _ h => by cases h) 0 [.bool (PF1.b (i.toNat)), .slice (PF1.a (i.toNat)) (PF1.q (i.toNat)) (PF1.c (i.toNat)), .bool (PF1.b2 (i.toNat)), .slice (PF1.a2 (i.toNat)) (PF1.q2 (i.toNat)) (PF1.c2 (i.toNat))]))
              replace HB10 : Hid (Big V11 (.agg #[.bool bn10, .slice ba10 bl10 bc10]) r8 37) := Lib.hid (by rw [hV11]; exact (big_setL HB10.out (Blk.cell k5 0) (fun _ h => by cases h) 0 [.bool (PF1.b (i.toNat)), .slice (PF1.a (i.toNat)) (PF1.q (i.toNat)) (PF1.c (i.toNat)), .bool (PF1.b2 (i.toNat)), .slice (PF1.a2 (i.toNat)) (PF1.q2 (i.toNat)) (PF1.c2 (i.toNat))]))
              replace HB11 : Hid (Big V11 (.agg #[.bool bn11, .slice ba11 bl11 bc11]) r9 46) := Lib.hid (by rw [hV11]; exact (big_setL HB11.out (Blk.cell k5 0) (fun _ h => by cases h) 0 [.bool (PF1.b (i.toNat)), .slice (PF1.a (i.toNat)) (PF1.q (i.toNat)) (PF1.c (i.toNat)), .bool (PF1.b2 (i.toNat)), .slice (PF1.a2 (i.toNat)) (PF1.q2 (i.toNat)) (PF1.c2 (i.toNat))]))
              replace HB12 : Hid (Big V11 (.agg #[.bool bn12, .slice ba12 bl12 bc12]) r10 46) := Lib.hid (by rw [hV11]; exact (big_setL HB12.out (Blk.cell k5 0) (fun _ h => by cases h) 0 [.bool (PF1.b (i.toNat)), .slice (PF1.a (i.toNat)) (PF1.q (i.toNat)) (PF1.c (i.toNat)), .bool (PF1.b2 (i.toNat)), .slice (PF1.a2 (i.toNat)) (PF1.q2 (i.toNat)) (PF1.c2 (i.toNat))]))
              replace HB13 : Hid (Big V11 (.agg #[.bool bn13, .slice ba13 bl13 bc13]) r11 40) := Lib.hid (by rw [hV11]; exact (big_setL HB13.out (Blk.cell k5 0) (fun _ h => by cases h) 0 [.bool (PF1.b (i.toNat)), .slice (PF1.a (i.toNat)) (PF1.q (i.toNat)) (PF1.c (i.toNat)), .bool (PF1.b2 (i.toNat)), .slice (PF1.a2 (i.toNat)) (PF1.q2 (i.toNat)) (PF1.c2 (i.toNat))]))
              clear k1 k2 k3 k4 k5
              clear hb0
              clear hV11
              have k1 := nk1
              clear nk1
              have k2 := nk2
              clear nk2
              have k3 := nk3
              clear nk3
              have k4 := nk4
              clear nk4
              have k5 := nk5
              clear nk5
              have hb0 := nhb0
              clear nhb0
              obtain ⟨V12, hV12⟩ : ∃ v_ : World, v_ = setL V11 U2.heap.size 8 [.bool true] := ⟨_, rfl⟩
              rw [← hV12] at hs_
              have D14 := Lib.hid k1.lt
              have D15 := Lib.hid k2.lt
              have D16 := Lib.hid k3.lt
              have D17 := Lib.hid k4.lt
              have D18 := Lib.hid k5.lt
              have D19 := Lib.hid hb0.size
              have nk1 : Blk V12 w.heap.size #[.int .i64 ax, .int .i64 ay] 31 := by rw [hV12]; exact (blk_setL k1 (by have := D1.out; omega) 8 [.bool true])
              have nk2 : Blk V12 (w.heap.size + 1) #[.int .i64 bx, .int .i64 b_y] 31 := by rw [hV12]; exact (blk_setL k2 (by have := D2.out; omega) 8 [.bool true])
              have nk3 : Blk V12 (w.heap.size + 1 + 1) #[.int .i64 cx, .int .i64 cy] 31 := by rw [hV12]; exact (blk_setL k3 (by have := D3.out; omega) 8 [.bool true])
              have nk4 : Blk V12 (w.heap.size + 1 + 1 + 1) #[.bool false, .slice none 0 0, .bool false, .slice none 0 0, .bool false, .slice none 0 0, .bool false, .slice none 0 0, .bool false, .bool false, .bool false] 62 := by rw [hV12]; exact (blk_setL k4 (by have := D4.out; omega) 8 [.bool true])
              have nk5 : Blk V12 U2.heap.size #[.bool (PF1.b (i.toNat)), .slice (PF1.a (i.toNat)) (PF1.q (i.toNat)) (PF1.c (i.toNat)), .bool (PF1.b2 (i.toNat)), .slice (PF1.a2 (i.toNat)) (PF1.q2 (i.toNat)) (PF1.c2 (i.toNat)), .bool nC, .slice aC lC cC, .bool nE, .slice aE lE cE, .bool true, .bool su, .bool false] 62 := by rw [hV12]; exact (blk_putL k5 8 [.bool true])
              have nhb0 : Below w.heap.size w V12 := by rw [hV12]; exact (blw_setL hb0 (by have := D5.out; omega) 8 [.bool true])
              replace HB1 : Hid (RS V12 pg1 pc1 pn1 PF1) := Lib.hid (by rw [hV12]; exact (rs_setL HB1.out k5 (by decide) (Blk.cell k5 0) (fun _ h => by cases h) 8 [.bool true]))
              replace HB6 : Hid (Big V12 (.agg #[.bool bn6, .slice ba6 bl6 bc6]) r2 46) := Lib.hid (by rw [hV12]; exact (big_setL HB6.out (Blk.cell k5 0) (fun _ h => by cases h) 8 [.bool true]))
              replace HB7 : Hid (Big V12 (.agg #[.bool bn7, .slice ba7 bl7 bc7]) r3 46) := Lib.hid (by rw [hV12]; exact (big_setL HB7.out (Blk.cell k5 0) (fun _ h => by cases h) 8 [.bool true]))
              replace HB8 : Hid (Big V12 (.agg #[.bool bn8, .slice ba8 bl8 bc8]) r4 40) := Lib.hid (by rw [hV12]; exact (big_setL HB8.out (Blk.cell k5 0) (fun _ h => by cases h) 8 [.bool true]))
              replace HB9 : Hid (Big V12 (.agg #[.bool bn9, .slice ba9 bl9 bc9]) r7 37) := Lib.hid (by rw [hV12]; exact (big_setL HB9.out (Blk.cell k5 0) (fun _ h => by cases h) 8 [.bool true]))
              replace HB10 : Hid (Big V12 (.agg #[.bool bn10, .slice ba10 bl10 bc10]) r8 37) := Lib.hid (by rw [hV12]; exact (big_setL HB10.out (Blk.cell k5 0) (fun _ h => by cases h) 8 [.bool true]))
              replace HB11 : Hid (Big V12 (.agg #[.bool bn11, .slice ba11 bl11 bc11]) r9 46) := Lib.hid (by rw [hV12]; exact (big_setL HB11.out (Blk.cell k5 0) (fun _ h => by cases h) 8 [.bool true]))
              replace HB12 : Hid (Big V12 (.agg #[.bool bn12, .slice ba12 bl12 bc12]) r10 46) := Lib.hid (by rw [hV12]; exact (big_setL HB12.out (Blk.cell k5 0) (fun _ h => by cases h) 8 [.bool true]))
              replace HB13 : Hid (Big V12 (.agg #[.bool bn13, .slice ba13 bl13 bc13]) r11 40) := Lib.hid (by rw [hV12]; exact (big_setL HB13.out (Blk.cell k5 0) (fun _ h => by cases h) 8 [.bool true]))
              clear k1 k2 k3 k4 k5
              clear hb0
              clear hV12
              have k1 := nk1
              clear nk1
              have k2 := nk2
              clear nk2
              have k3 := nk3
              clear nk3
              have k4 := nk4
              clear nk4
              have k5 := nk5
              clear nk5
              have hb0 := nhb0
              clear nhb0
              obtain ⟨V13, hV13⟩ : ∃ v_ : World, v_ = setL V12 U2.heap.size 10 [.bool true] := ⟨_, rfl⟩
              rw [← hV13] at hs_
              have D20 := Lib.hid k1.lt
              have D21 := Lib.hid k2.lt
              have D22 := Lib.hid k3.lt
              have D23 := Lib.hid k4.lt
              have D24 := Lib.hid k5.lt
              have D25 := Lib.hid hb0.size
              have nk1 : Blk V13 w.heap.size #[.int .i64 ax, .int .i64 ay] 31 := by rw [hV13]; exact (blk_setL k1 (by have := D1.out; omega) 10 [.bool true])
              have nk2 : Blk V13 (w.heap.size + 1) #[.int .i64 bx, .int .i64 b_y] 31 := by rw [hV13]; exact (blk_setL k2 (by have := D2.out; omega) 10 [.bool true])
              have nk3 : Blk V13 (w.heap.size + 1 + 1) #[.int .i64 cx, .int .i64 cy] 31 := by rw [hV13]; exact (blk_setL k3 (by have := D3.out; omega) 10 [.bool true])
              have nk4 : Blk V13 (w.heap.size + 1 + 1 + 1) #[.bool false, .slice none 0 0, .bool false, .slice none 0 0, .bool false, .slice none 0 0, .bool false, .slice none 0 0, .bool false, .bool false, .bool false] 62 := by rw [hV13]; exact (blk_setL k4 (by have := D4.out; omega) 10 [.bool true])
              have nk5 : Blk V13 U2.heap.size #[.bool (PF1.b (i.toNat)), .slice (PF1.a (i.toNat)) (PF1.q (i.toNat)) (PF1.c (i.toNat)), .bool (PF1.b2 (i.toNat)), .slice (PF1.a2 (i.toNat)) (PF1.q2 (i.toNat)) (PF1.c2 (i.toNat)), .bool nC, .slice aC lC cC, .bool nE, .slice aE lE cE, .bool true, .bool su, .bool true] 62 := by rw [hV13]; exact (blk_putL k5 10 [.bool true])
              have nhb0 : Below w.heap.size w V13 := by rw [hV13]; exact (blw_setL hb0 (by have := D5.out; omega) 10 [.bool true])
              replace HB1 : Hid (RS V13 pg1 pc1 pn1 PF1) := Lib.hid (by rw [hV13]; exact (rs_setL HB1.out k5 (by decide) (Blk.cell k5 0) (fun _ h => by cases h) 10 [.bool true]))
              replace HB6 : Hid (Big V13 (.agg #[.bool bn6, .slice ba6 bl6 bc6]) r2 46) := Lib.hid (by rw [hV13]; exact (big_setL HB6.out (Blk.cell k5 0) (fun _ h => by cases h) 10 [.bool true]))
              replace HB7 : Hid (Big V13 (.agg #[.bool bn7, .slice ba7 bl7 bc7]) r3 46) := Lib.hid (by rw [hV13]; exact (big_setL HB7.out (Blk.cell k5 0) (fun _ h => by cases h) 10 [.bool true]))
              replace HB8 : Hid (Big V13 (.agg #[.bool bn8, .slice ba8 bl8 bc8]) r4 40) := Lib.hid (by rw [hV13]; exact (big_setL HB8.out (Blk.cell k5 0) (fun _ h => by cases h) 10 [.bool true]))
              replace HB9 : Hid (Big V13 (.agg #[.bool bn9, .slice ba9 bl9 bc9]) r7 37) := Lib.hid (by rw [hV13]; exact (big_setL HB9.out (Blk.cell k5 0) (fun _ h => by cases h) 10 [.bool true]))
              replace HB10 : Hid (Big V13 (.agg #[.bool bn10, .slice ba10 bl10 bc10]) r8 37) := Lib.hid (by rw [hV13]; exact (big_setL HB10.out (Blk.cell k5 0) (fun _ h => by cases h) 10 [.bool true]))
              replace HB11 : Hid (Big V13 (.agg #[.bool bn11, .slice ba11 bl11 bc11]) r9 46) := Lib.hid (by rw [hV13]; exact (big_setL HB11.out (Blk.cell k5 0) (fun _ h => by cases h) 10 [.bool true]))
              replace HB12 : Hid (Big V13 (.agg #[.bool bn12, .slice ba12 bl12 bc12]) r10 46) := Lib.hid (by rw [hV13]; exact (big_setL HB12.out (Blk.cell k5 0) (fun _ h => by cases h) 10 [.bool true]))
              replace HB13 : Hid (Big V13 (.agg #[.bool bn13, .slice ba13 bl13 bc13]) r11 40) := Lib.hid (by rw [hV13]; exact (big_setL HB13.out (Blk.cell k5 0) (fun _ h => by cases h) 10 [.bool true]))
              clear k1 k2 k3 k4 k5
              clear hb0
              clear hV13
              have k1 := nk1
              clear nk1
              have k2 := nk2
              clear nk2
              have k3 := nk3
              clear nk3
              have k4 := nk4
              clear nk4
              have k5 := nk5
              clear nk5
              have hb0 := nhb0
              clear nhb0
              obtain ⟨V14, hV14⟩ : ∃ v_ : World, v_ = setL V13 U2.heap.size 4 [.bool (PF1.b ((i + 1).toNat)), .slice (PF1.a ((i + 1).toNat)) (PF1.q ((i + 1).toNat)) (PF1.c ((i + 1).toNat)), .bool (PF1.b2 ((i + 1).toNat)), .slice (PF1.a2 ((i + 1).toNat)) (PF1.q2 ((i + 1).toNat)) (PF1.c2 ((i + 1).toNat))] := ⟨_, rfl⟩
              rw [← hV14] at hs_
              have D26 := Lib.hid k1.lt
              have D27 := Lib.hid k2.lt
              have D28 := Lib.hid k3.lt
              have D29 := Lib.hid k4.lt
              have D30 := Lib.hid k5.lt
              have D31 := Lib.hid hb0.size
              have nk1 : Blk V14 w.heap.size #[.int .i64 ax, .int .i64 ay] 31 := by rw [hV14]; exact (blk_setL k1 (by have := D1.out; omega) 4 [.bool (PF1.b ((i + 1).toNat)), .slice (PF1.a ((i + 1).toNat)) (PF1.q ((i + 1).toNat)) (PF1.c ((i + 1).toNat)), .bool (PF1.b2 ((i + 1).toNat)), .slice (PF1.a2 ((i + 1).toNat)) (PF1.q2 ((i + 1).toNat)) (PF1.c2 ((i + 1).toNat))])
              have nk2 : Blk V14 (w.heap.size + 1) #[.int .i64 bx, .int .i64 b_y] 31 := by rw [hV14]; exact (blk_setL k2 (by have := D2.out; omega) 4 [.bool (PF1.b ((i + 1).toNat)), .slice (PF1.a ((i + 1).toNat)) (PF1.q ((i + 1).toNat)) (PF1.c ((i + 1).toNat)), .bool (PF1.b2 ((i + 1).toNat)), .slice (PF1.a2 ((i + 1).toNat)) (PF1.q2 ((i + 1).toNat)) (PF1.c2 ((i + 1).toNat))])
              have nk3 : Blk V14 (w.heap.size + 1 + 1) #[.int .i64 cx, .int .i64 cy] 31 := by rw [hV14]; exact (blk_setL k3 (by have := D3.out; omega) 4 [.bool (PF1.b ((i + 1).toNat)), .slice (PF1.a ((i + 1).toNat)) (PF1.q ((i + 1).toNat)) (PF1.c ((i + 1).toNat)), .bool (PF1.b2 ((i + 1).toNat)), .slice (PF1.a2 ((i + 1).toNat)) (PF1.q2 ((i + 1).toNat)) (PF1.c2 ((i + 1).toNat))])
              have nk4 : Blk V14 (w.heap.size + 1 + 1 + 1) #[.bool false, .slice none 0 0, .bool false, .slice none 0 0, .bool false, .slice none 0 0, .bool false, .slice none 0 0, .bool false, .bool false, .bool false] 62 := by rw [hV14]; exact (blk_setL k4 (by have := D4.out; omega) 4 [.bool (PF1.b ((i + 1).toNat)), .slice (PF1.a ((i + 1).toNat)) (PF1.q ((i + 1).toNat)) (PF1.c ((i + 1).toNat)), .bool (PF1.b2 ((i + 1).toNat)), .slice (PF1.a2 ((i + 1).toNat)) (PF1.q2 ((i + 1).toNat)) (PF1.c2 ((i + 1).toNat))])
              have nk5 : Blk V14 U2.heap.size #[.bool (PF1.b (i.toNat)), .slice (PF1.a (i.toNat)) (PF1.q (i.toNat)) (PF1.c (i.toNat)), .bool (PF1.b2 (i.toNat)), .slice (PF1.a2 (i.toNat)) (PF1.q2 (i.toNat)) (PF1.c2 (i.toNat)), .bool (PF1.b ((i + 1).toNat)), .slice (PF1.a ((i + 1).toNat)) (PF1.q ((i + 1).toNat)) (PF1.c ((i + 1).toNat)), .bool (PF1.b2 ((i + 1).toNat)), .slice (PF1.a2 ((i + 1).toNat)) (PF1.q2 ((i + 1).toNat)) (PF1.c2 ((i + 1).toNat)), .bool true, .bool su, .bool true] 62 := by rw [hV14]; exact (blk_putL k5 4 [.bool (PF1.b ((i + 1).toNat)), .slice (PF1.a ((i + 1).toNat)) (PF1.q ((i + 1).toNat)) (PF1.c ((i + 1).toNat)), .bool (PF1.b2 ((i + 1).toNat)), .slice (PF1.a2 ((i + 1).toNat)) (PF1.q2 ((i + 1).toNat)) (PF1.c2 ((i + 1).toNat))])
              have nhb0 : Below w.heap.size w V14 := by rw [hV14]; exact (blw_setL hb0 (by have := D5.out; omega) 4 [.bool (PF1.b ((i + 1).toNat)), .slice (PF1.a ((i + 1).toNat)) (PF1.q ((i + 1).toNat)) (PF1.c ((i + 1).toNat)), .bool (PF1.b2 ((i + 1).toNat)), .slice (PF1.a2 ((i + 1).toNat)) (PF1.q2 ((i + 1).toNat)) (PF1.c2 ((i + 1).toNat))])
              replace HB1 : Hid (RS V14 pg1 pc1 pn1 PF1) := Lib.hid (by rw [hV14]; exact (rs_setL HB1.out k5 (by decide) (Blk.cell k5 0) (fun _ h => by cases h) 4 [.bool (PF1.b ((i + 1).toNat)), .slice (PF1.a ((i + 1).toNat)) (PF1.q ((i + 1).toNat)) (PF1.c ((i + 1).toNat)), .bool (PF1.b2 ((i + 1).toNat)), .slice (PF1.a2 ((i + 1).toNat)) (PF1.q2 ((i + 1).toNat)) (PF1.c2 ((i + 1).toNat))]))
              replace HB6 : Hid (Big V14 (.agg #[.bool bn6, .slice ba6 bl6 bc6]) r2 46) := Lib.hid (by rw [hV14]; exact (big_setL HB6.out (Blk.cell k5 0) (fun _ h => by cases h) 4 [.bool (PF1.b ((i + 1).toNat)), .slice (PF1.a ((i + 1).toNat)) (PF1.q ((i + 1).toNat)) (PF1.c ((i + 1).toNat)), .bool (PF1.b2 ((i + 1).toNat)), .slice (PF1.a2 ((i + 1).toNat)) (PF1.q2 ((i + 1).toNat)) (PF1.c2 ((i + 1).toNat))]))
              replace HB7 : Hid (Big V14 (.agg #[.bool bn7, .slice ba7 bl7 bc7]) r3 46) := Lib.hid (by rw [hV14]; exact (big_setL HB7.out (Blk.cell k5 0) (fun _ h => by cases h) 4 [.bool (PF1.b ((i + 1).toNat)), .slice (PF1.a ((i + 1).toNat)) (PF1.q ((i + 1).toNat)) (PF1.c ((i + 1).toNat)), .bool (PF1.b2 ((i + 1).toNat)), .slice (PF1.a2 ((i + 1).toNat)) (PF1.q2 ((i + 1).toNat)) (PF1.c2 ((i + 1).toNat))]))
              replace HB8 : Hid (Big V14 (.agg #[.bool bn8, .slice ba8 bl8 bc8]) r4 40) := Lib.hid (by rw [hV14]; exact (big_setL HB8.out (Blk.cell k5 0) (fun _ h => by cases h) 4 [.bool (PF1.b ((i + 1).toNat)), .slice (PF1.a ((i + 1).toNat)) (PF1.q ((i + 1).toNat)) (PF1.c ((i + 1).toNat)), .bool (PF1.b2 ((i + 1).toNat)), .slice (PF1.a2 ((i + 1).toNat)) (PF1.q2 ((i + 1).toNat)) (PF1.c2 ((i + 1).toNat))]))
              replace HB9 : Hid (Big V14 (.agg #[.bool bn9, .slice ba9 bl9 bc9]) r7 37) := Lib.hid (by rw [hV14]; exact (big_setL HB9.out (Blk.cell k5 0) (fun _ h => by cases h) 4 [.bool (PF1.b ((i + 1).toNat)), .slice (PF1.a ((i + 1).toNat)) (PF1.q ((i + 1).toNat)) (PF1.c ((i + 1).toNat)), .bool (PF1.b2 ((i + 1).toNat)), .slice (PF1.a2 ((i + 1).toNat)) (PF1.q2 ((i + 1).toNat)) (PF1.c2 ((i + 1).toNat))]))
              replace HB10 : Hid (Big V14 (.agg #[.bool bn10, .slice ba10 bl10 bc10]) r8 37) := Lib.hid (by rw [hV14]; exact (big_setL HB10.out (Blk.cell k5 0) (fun _ h => by cases h) 4 [.bool (PF1.b ((i + 1).toNat)), .slice (PF1.a ((i + 1).toNat)) (PF1.q ((i + 1).toNat)) (PF1.c ((i + 1).toNat)), .bool (PF1.b2 ((i + 1).toNat)), .slice (PF1.a2 ((i + 1).toNat)) (PF1.q2 ((i + 1).toNat)) (PF1.c2 ((i + 1).toNat))]))
              replace HB11 : Hid (Big V14 (.agg #[.bool bn11, .slice ba11 bl11 bc11]) r9 46) := Lib.hid (by rw [hV14]; exact (big_setL HB11.out (Blk.cell k5 0) (fun _ h => by cases h) 4 [.bool (PF1.b ((i + 1).toNat)), .slice (PF1.a ((i + 1).toNat)) (PF1.q ((i + 1).toNat)) (PF1.c ((i + 1).toNat)), .bool (PF1.b2 ((i + 1).toNat)), .slice (PF1.a2 ((i + 1).toNat)) (PF1.q2 ((i + 1).toNat)) (PF1.c2 ((i + 1).toNat))]))
              replace HB12 : Hid (Big V14 (.agg #[.bool bn12, .slice ba12 bl12 bc12]) r10 46) := Lib.hid (by rw [hV14]; exact (big_setL HB12.out (Blk.cell k5 0) (fun _ h => by cases h) 4 [.bool (PF1.b ((i + 1).toNat)), .slice (PF1.a ((i + 1).toNat)) (PF1.q ((i + 1).toNat)) (PF1.c ((i + 1).toNat)), .bool (PF1.b2 ((i + 1).toNat)), .slice (PF1.a2 ((i + 1).toNat)) (PF1.q2 ((i + 1).toNat)) (PF1.c2 ((i + 1).toNat))]))
              replace HB13 : Hid (Big V14 (.agg #[.bool bn13, .slice ba13 bl13 bc13]) r11 40) := Lib.hid (by rw [hV14]; exact (big_setL HB13.out (Blk.cell k5 0) (fun _ h => by cases h) 4 [.bool (PF1.b ((i + 1).toNat)), .slice (PF1.a ((i + 1).toNat)) (PF1.q ((i + 1).toNat)) (PF1.c ((i + 1).toNat)), .bool (PF1.b2 ((i + 1).toNat)), .slice (PF1.a2 ((i + 1).toNat)) (PF1.q2 ((i + 1).toNat)) (PF1.c2 ((i + 1).toNat))]))
              clear k1 k2 k3 k4 k5
              clear hb0
              clear hV14
              have k1 := nk1
              clear nk1
              have k2 := nk2
              clear nk2
              have k3 := nk3
              clear nk3
              have k4 := nk4
              clear nk4
              have k5 := nk5
              clear nk5
              have hb0 := nhb0
              clear nhb0
              have hV10 := hs_
              clear hs_
              have D32 := Lib.hid k1.lt
              have D33 := Lib.hid k2.lt
              have D34 := Lib.hid k3.lt
              have D35 := Lib.hid k4.lt
              have D36 := Lib.hid k5.lt
              have D37 := Lib.hid hb0.size
              have nk1 : Blk V10 w.heap.size #[.int .i64 ax, .int .i64 ay] 31 := by rw [hV10]; exact (blk_setL k1 (by have := D1.out; omega) 9 [.bool true])
              have nk2 : Blk V10 (w.heap.size + 1) #[.int .i64 bx, .int .i64 b_y] 31 := by rw [hV10]; exact (blk_setL k2 (by have := D2.out; omega) 9 [.bool true])
              have nk3 : Blk V10 (w.heap.size + 1 + 1) #[.int .i64 cx, .int .i64 cy] 31 := by rw [hV10]; exact (blk_setL k3 (by have := D3.out; omega) 9 [.bool true])
              have nk4 : Blk V10 (w.heap.size + 1 + 1 + 1) #[.bool false, .slice none 0 0, .bool false, .slice none 0 0, .bool false, .slice none 0 0, .bool false, .slice none 0 0, .bool false, .bool false, .bool false] 62 := by rw [hV10]; exact (blk_setL k4 (by have := D4.out; omega) 9 [.bool true])
              have nk5 : Blk V10 U2.heap.size #[.bool (PF1.b (i.toNat)), .slice (PF1.a (i.toNat)) (PF1.q (i.toNat)) (PF1.c (i.toNat)), .bool (PF1.b2 (i.toNat)), .slice (PF1.a2 (i.toNat)) (PF1.q2 (i.toNat)) (PF1.c2 (i.toNat)), .bool (PF1.b ((i + 1).toNat)), .slice (PF1.a ((i + 1).toNat)) (PF1.q ((i + 1).toNat)) (PF1.c ((i + 1).toNat)), .bool (PF1.b2 ((i + 1).toNat)), .slice (PF1.a2 ((i + 1).toNat)) (PF1.q2 ((i + 1).toNat)) (PF1.c2 ((i + 1).toNat)), .bool true, .bool true, .bool true] 62 := by rw [hV10]; exact (blk_putL k5 9 [.bool true])
              have nhb0 : Below w.heap.size w V10 := by rw [hV10]; exact (blw_setL hb0 (by have := D5.out; omega) 9 [.bool true])
              replace HB1 : Hid (RS V10 pg1 pc1 pn1 PF1) := Lib.hid (by rw [hV10]; exact (rs_setL HB1.out k5 (by decide) (Blk.cell k5 0) (fun _ h => by cases h) 9 [.bool true]))
              replace HB6 : Hid (Big V10 (.agg #[.bool bn6, .slice ba6 bl6 bc6]) r2 46) := Lib.hid (by rw [hV10]; exact (big_setL HB6.out (Blk.cell k5 0) (fun _ h => by cases h) 9 [.bool true]))
              replace HB7 : Hid (Big V10 (.agg #[.bool bn7, .slice ba7 bl7 bc7]) r3 46) := Lib.hid (by rw [hV10]; exact (big_setL HB7.out (Blk.cell k5 0) (fun _ h => by cases h) 9 [.bool true]))
              replace HB8 : Hid (Big V10 (.agg #[.bool bn8, .slice ba8 bl8 bc8]) r4 40) := Lib.hid (by rw [hV10]; exact (big_setL HB8.out (Blk.cell k5 0) (fun _ h => by cases h) 9 [.bool true]))
              replace HB9 : Hid (Big V10 (.agg #[.bool bn9, .slice ba9 bl9 bc9]) r7 37) := Lib.hid (by rw [hV10]; exact (big_setL HB9.out (Blk.cell k5 0) (fun _ h => by cases h) 9 [.bool true]))
              replace HB10 : Hid (Big V10 (.agg #[.bool bn10, .slice ba10 bl10 bc10]) r8 37) := Lib.hid (by rw [hV10]; exact (big_setL HB10.out (Blk.cell k5 0) (fun _ h => by cases h) 9 [.bool true]))
              replace HB11 : Hid (Big V10 (.agg #[.bool bn11, .slice ba11 bl11 bc11]) r9 46) := Lib.hid (by rw [hV10]; exact (big_setL HB11.out (Blk.cell k5 0) (fun _ h => by cases h) 9 [.bool true]))
              replace HB12 : Hid (Big V10 (.agg #[.bool bn12, .slice ba12 bl12 bc12]) r10 46) := Lib.hid (by rw [hV10]; exact (big_setL HB12.out (Blk.cell k5 0) (fun _ h => by cases h) 9 [.bool true]))
              replace HB13 : Hid (Big V10 (.agg #[.bool bn13, .slice ba13 bl13 bc13]) r11 40) := Lib.hid (by rw [hV10]; exact (big_setL HB13.out (Blk.cell k5 0) (fun _ h => by cases h) 9 [.bool true]))
              clear k1 k2 k3 k4 k5
              clear hb0
              clear hV10
              have k1 := nk1
              clear nk1
              have k2 := nk2
              clear nk2
              have k3 := nk3
              clear nk3
              have k4 := nk4
              clear nk4
              have k5 := nk5
              clear nk5
              have hb0 := nhb0
              clear nhb0
              have HIn : CuI ax ay bx b_y cx cy n PF1 pn1 (i + 1) ⟨true, (PF1.N (i.toNat)), (PF1.D (i.toNat)), (PF1.N ((i + 1).toNat)), (PF1.D ((i + 1).toNat)), true, true⟩ ∧ pn1 - (i + 1).toNat ≤ ((pn1 - ((i + 1)).toNat) : Nat) := by
                first
                  | (exact ⟨CuI.more HI1.out.1 hz1 hz6 (by have p1 := PC_v Hr2.out Hr3.out Hr4.out Hz5.out; have p2 := PM_v Hr7.out Hr8.out Hr9.out Hr10.out Hr11.out Hz12.out; unfold midF hitF; simp only [p1, p2, cond_true, cond_false]), by have := HI1.out.2; have := of_decide_eq_true hz1; have := HI1.out.1.1; omega⟩)
                  | (exact ⟨CuI.last HI1.out.1 hz1 hz6 (by have p1 := PC_v Hr2.out Hr3.out Hr4.out Hz5.out; unfold hitF; simp only [p1, cond_true, cond_false]), by have := HI1.out.2; have := of_decide_eq_true hz1; have := HI1.out.1.1; omega⟩)
              try rw [show (wrap64 (i + 1)) = (i + 1) from (HI1.out.1.w HM1.out)]
              go_roundg (pn1 - ((i + 1)).toNat)
              case measure =>
                have q_ := of_decide_eq_true hz1
                have q2_ := HI1.out.2
                have q3_ := HI1.out.1.1
                omega
              case rel => exact ⟨(i + 1), (PF1.N (i.toNat)), (PF1.D (i.toNat)), (PF1.N ((i + 1).toNat)), (PF1.D ((i + 1).toNat)), true, true, true, (PF1.b (i.toNat)), (PF1.a (i.toNat)), (PF1.q (i.toNat)), (PF1.c (i.toNat)), (PF1.b2 (i.toNat)), (PF1.a2 (i.toNat)), (PF1.q2 (i.toNat)), (PF1.c2 (i.toNat)), (PF1.b ((i + 1).toNat)), (PF1.a ((i + 1).toNat)), (PF1.q ((i + 1).toNat)), (PF1.c ((i + 1).toNat)), (PF1.b2 ((i + 1).toNat)), (PF1.a2 ((i + 1).toNat)), (PF1.q2 ((i + 1).toNat)), (PF1.c2 ((i + 1).toNat)), rfl, Lib.hid HIn, k1, k2, k3, k4, k5, HB1.out, (RS.num HB1.out _ (ixlt (HI1.out.1.ix hz1))), (RS.den HB1.out _ (ixlt (HI1.out.1.ix hz1))), (RS.num HB1.out _ (ixlt (HI1.out.1.ix1 hz6))), (RS.den HB1.out _ (ixlt (HI1.out.1.ix1 hz6))), hb0⟩
            · have c5_4 : U9.cell? ⟨U2.heap.size, 4, none⟩ = some (.bool nC) := k5.cell 4
              have c5_5 : U9.cell? ⟨U2.heap.size, 5, none⟩ = some (.slice aC lC cC) := k5.cell 5
              have c5_6 : U9.cell? ⟨U2.heap.size, 6, none⟩ = some (.bool nE) := k5.cell 6
              have c5_7 : U9.cell? ⟨U2.heap.size, 7, none⟩ = some (.slice aE lE cE) := k5.cell 7
              have c5_9 : U9.cell? ⟨U2.heap.size, 9, none⟩ = some (.bool su) := k5.cell 9
              have c5_10 : U9.cell? ⟨U2.heap.size, 10, none⟩ = some (.bool true) := k5.cell 10
              have f5_4 := k5.free 4
              have f5_5 := k5.free 5
              have f5_6 := k5.free 6
              have f5_7 := k5.free 7
              have f5_9 := k5.free 9
              have f5_10 := k5.free 10
              have l5 := k5.lt
              have xw0 : (wrap64 (i + 1)) = (i + 1) := (HI1.out.1.w HM1.out)
              have ea0 : (0 : Int) ≤ (i + 1) := ((HI1.out.1.ix1 hz6)).1
              have eb0 : ((i + 1) : Int) < (pn1 : Int) := ((HI1.out.1.ix1 hz6)).2
              have el0 := RS.lt HB1.out
              have ec0_0 : U9.cell? ⟨pg1, (i + 1).toNat * 4, none⟩ = some (.bool (PF1.b ((i + 1).toNat))) := RS.c0 HB1.out (ixlt (HI1.out.1.ix1 hz6))
              have ec0_1 : U9.cell? ⟨pg1, (i + 1).toNat * 4 + 1, none⟩ = some (.slice (PF1.a ((i + 1).toNat)) (PF1.q ((i + 1).toNat)) (PF1.c ((i + 1).toNat))) := RS.c1 HB1.out (ixlt (HI1.out.1.ix1 hz6))
              have ec0_2 : U9.cell? ⟨pg1, (i + 1).toNat * 4 + 2, none⟩ = some (.bool (PF1.b2 ((i + 1).toNat))) := RS.c2 HB1.out (ixlt (HI1.out.1.ix1 hz6))
              have ec0_3 : U9.cell? ⟨pg1, (i + 1).toNat * 4 + 3, none⟩ = some (.slice (PF1.a2 ((i + 1).toNat)) (PF1.q2 ((i + 1).toNat)) (PF1.c2 ((i + 1).toNat))) := RS.c3 HB1.out (ixlt (HI1.out.1.ix1 hz6))
              have en0_5 := rs_ne HB1.out k5 (by decide)
              have em0_5 := en0_5.symm
              go_wp2_with fail
              clear c5_4 c5_5 c5_6 c5_7 c5_9 c5_10 f5_4 f5_5 f5_6 f5_7 f5_9 f5_10 l5 xw0 ea0 eb0 el0 ec0_0 ec0_1 ec0_2 ec0_3 en0_5 em0_5
              first | refine k_world ?_
              intro V15 hV15
              clear HB4 HB5
              have hs_ : V15 = (setL (setL (setL U9 U2.heap.size 10 [.bool true]) U2.heap.size 4 [.bool (PF1.b ((i + 1).toNat)), .slice (PF1.a ((i + 1).toNat)) (PF1.q ((i + 1).toNat)) (PF1.c ((i + 1).toNat)), .bool (PF1.b2 ((i + 1).toNat)), .slice (PF1.a2 ((i + 1).toNat)) (PF1.q2 ((i + 1).toNat)) (PF1.c2 ((i + 1).toNat))]) U2.heap.size 9 [.bool true]) := hV15
              clear hV15
              obtain ⟨V16, hV16⟩ : ∃ v_ : World, v_ = setL U9 U2.heap.size 10 [.bool true] := ⟨_, rfl⟩
              rw [← hV16] at hs_
              have D38 := Lib.hid k1.lt
              have D39 := Lib.hid k2.lt
              have D40 := Lib.hid k3.lt
              have D41 := Lib.hid k4.lt
              have D42 := Lib.hid k5.lt
              have D43 := Lib.hid hb0.size
              have nk1 : Blk V16 w.heap.size #[.int .i64 ax, .int .i64 ay] 31 := by rw [hV16]; exact (blk_setL k1 (by have := D1.out; omega) 10 [.bool true])
              have nk2 : Blk V16 (w.heap.size + 1) #[.int .i64 bx, .int .i64 b_y] 31 := by rw [hV16]; exact (blk_setL k2 (by have := D2.out; omega) 10 [.bool true])
              have nk3 : Blk V16 (w.heap.size + 1 + 1) #[.int .i64 cx, .int .i64 cy] 31 := by rw [hV16]; exact (blk_setL k3 (by have := D3.out; omega) 10 [.bool true])
              have nk4 : Blk V16 (w.heap.size + 1 + 1 + 1) #[.bool false, .slice none 0 0, .bool false, .slice none 0 0, .bool false, .slice none 0 0, .bool false, .slice none 0 0, .bool false, .bool false, .bool false] 62 := by rw [hV16]; exact (blk_setL k4 (by have := D4.out; omega) 10 [.bool true])
              have nk5 : Blk V16 U2.heap.size #[.bool nA, .slice aA lA cA, .bool nB, .slice aB lB cB, .bool nC, .slice aC lC cC, .bool nE, .slice aE lE cE, .bool so, .bool su, .bool true] 62 := by rw [hV16]; exact (blk_putL k5 10 [.bool true])
              have nhb0 : Below w.heap.size w V16 := by rw [hV16]; exact (blw_setL hb0 (by have := D5.out; omega) 10 [.bool true])
              replace HB1 : Hid (RS V16 pg1 pc1 pn1 PF1) := Lib.hid (by rw [hV16]; exact (rs_setL HB1.out k5 (by decide) (Blk.cell k5 0) (fun _ h => by cases h) 10 [.bool true]))
              replace HB2 : Hid (Big V16 (.agg #[.bool nA, .slice aA lA cA]) fN 18) := Lib.hid (by rw [hV16]; exact (big_setL HB2.out (Blk.cell k5 0) (fun _ h => by cases h) 10 [.bool true]))
              replace HB3 : Hid (Big V16 (.agg #[.bool nB, .slice aB lB cB]) fD 18) := Lib.hid (by rw [hV16]; exact (big_setL HB3.out (Blk.cell k5 0) (fun _ h => by cases h) 10 [.bool true]))
              replace HB6 : Hid (Big V16 (.agg #[.bool bn6, .slice ba6 bl6 bc6]) r2 46) := Lib.hid (by rw [hV16]; exact (big_setL HB6.out (Blk.cell k5 0) (fun _ h => by cases h) 10 [.bool true]))
              replace HB7 : Hid (Big V16 (.agg #[.bool bn7, .slice ba7 bl7 bc7]) r3 46) := Lib.hid (by rw [hV16]; exact (big_setL HB7.out (Blk.cell k5 0) (fun _ h => by cases h) 10 [.bool true]))
              replace HB8 : Hid (Big V16 (.agg #[.bool bn8, .slice ba8 bl8 bc8]) r4 40) := Lib.hid (by rw [hV16]; exact (big_setL HB8.out (Blk.cell k5 0) (fun _ h => by cases h) 10 [.bool true]))
              replace HB9 : Hid (Big V16 (.agg #[.bool bn9, .slice ba9 bl9 bc9]) r7 37) := Lib.hid (by rw [hV16]; exact (big_setL HB9.out (Blk.cell k5 0) (fun _ h => by cases h) 10 [.bool true]))
              replace HB10 : Hid (Big V16 (.agg #[.bool bn10, .slice ba10 bl10 bc10]) r8 37) := Lib.hid (by rw [hV16]; exact (big_setL HB10.out (Blk.cell k5 0) (fun _ h => by cases h) 10 [.bool true]))
              replace HB11 : Hid (Big V16 (.agg #[.bool bn11, .slice ba11 bl11 bc11]) r9 46) := Lib.hid (by rw [hV16]; exact (big_setL HB11.out (Blk.cell k5 0) (fun _ h => by cases h) 10 [.bool true]))
              replace HB12 : Hid (Big V16 (.agg #[.bool bn12, .slice ba12 bl12 bc12]) r10 46) := Lib.hid (by rw [hV16]; exact (big_setL HB12.out (Blk.cell k5 0) (fun _ h => by cases h) 10 [.bool true]))
              replace HB13 : Hid (Big V16 (.agg #[.bool bn13, .slice ba13 bl13 bc13]) r11 40) := Lib.hid (by rw [hV16]; exact (big_setL HB13.out (Blk.cell k5 0) (fun _ h => by cases h) 10 [.bool true]))
              clear k1 k2 k3 k4 k5
              clear hb0
              clear hV16
              have k1 := nk1
              clear nk1
              have k2 := nk2
              clear nk2
              have k3 := nk3
              clear nk3
              have k4 := nk4
              clear nk4
              have k5 := nk5
              clear nk5
              have hb0 := nhb0
              clear nhb0
              obtain ⟨V17, hV17⟩ : ∃ v_ : World, v_ = setL V16 U2.heap.size 4 [.bool (PF1.b ((i + 1).toNat)), .slice (PF1.a ((i + 1).toNat)) (PF1.q ((i + 1).toNat)) (PF1.c ((i + 1).toNat)), .bool (PF1.b2 ((i + 1).toNat)), .slice (PF1.a2 ((i + 1).toNat)) (PF1.q2 ((i + 1).toNat)) (PF1.c2 ((i + 1).toNat))] := ⟨_, rfl⟩
              rw [← hV17] at hs_
              have D44 := Lib.hid k1.lt
              have D45 := Lib.hid k2.lt
              have D46 := Lib.hid k3.lt
              have D47 := Lib.hid k4.lt
              have D48 := Lib.hid k5.lt
              have D49 := Lib.hid hb0.size
              have nk1 : Blk V17 w.heap.size #[.int .i64 ax, .int .i64 ay] 31 := by rw [hV17]; exact (blk_setL k1 (by have := D1.out; omega) 4 [.bool (PF1.b ((i + 1).toNat)), .slice (PF1.a ((i + 1).toNat)) (PF1.q ((i + 1).toNat)) (PF1.c ((i + 1).toNat)), .bool (PF1.b2 ((i + 1).toNat)), .slice (PF1.a2 ((i + 1).toNat)) (PF1.q2 ((i + 1).toNat)) (PF1.c2 ((i + 1).toNat))])
              have nk2 : Blk V17 (w.heap.size + 1) #[.int .i64 bx, .int .i64 b_y] 31 := by rw [hV17]; exact (blk_setL k2 (by have := D2.out; omega) 4 [.bool (PF1.b ((i + 1).toNat)), .slice (PF1.a ((i + 1).toNat)) (PF1.q ((i + 1).toNat)) (PF1.c ((i + 1).toNat)), .bool (PF1.b2 ((i + 1).toNat)), .slice (PF1.a2 ((i + 1).toNat)) (PF1.q2 ((i + 1).toNat)) (PF1.c2 ((i + 1).toNat))])
              have nk3 : Blk V17 (w.heap.size + 1 + 1) #[.int .i64 cx, .int .i64 cy] 31 := by rw [hV17]; exact (blk_setL k3 (by have := D3.out; omega) 4 [.bool (PF1.b ((i + 1).toNat)), .slice (PF1.a ((i + 1).toNat)) (PF1.q ((i + 1).toNat)) (PF1.c ((i + 1).toNat)), .bool (PF1.b2 ((i + 1).toNat)), .slice (PF1.a2 ((i + 1).toNat)) (PF1.q2 ((i + 1).toNat)) (PF1.c2 ((i + 1).toNat))])
              have nk4 : Blk V17 (w.heap.size + 1 + 1 + 1) #[.bool false, .slice none 0 0, .bool false, .slice none 0 0, .bool false, .slice none 0 0, .bool false, .slice none 0 0, .bool false, .bool false, .bool false] 62 := by rw [hV17]; exact (blk_setL k4 (by have := D4.out; omega) 4 [.bool (PF1.b ((i + 1).toNat)), .slice (PF1.a ((i + 1).toNat)) (PF1.q ((i + 1).toNat)) (PF1.c ((i + 1).toNat)), .bool (PF1.b2 ((i + 1).toNat)), .slice (PF1.a2 ((i + 1).toNat)) (PF1.q2 ((i + 1).toNat)) (PF1.c2 ((i + 1).toNat))])
              have nk5 : Blk V17 U2.heap.size #[.bool nA, .slice aA lA cA, .bool nB, .slice aB lB cB, .bool (PF1.b ((i + 1).toNat)), .slice (PF1.a ((i + 1).toNat)) (PF1.q ((i + 1).toNat)) (PF1.c ((i + 1).toNat)), .bool (PF1.b2 ((i + 1).toNat)), .slice (PF1.a2 ((i + 1).toNat)) (PF1.q2 ((i + 1).toNat)) (PF1.c2 ((i + 1).toNat)), .bool so, .bool su, .bool true] 62 := by rw [hV17]; exact (blk_putL k5 4 [.bool (PF1.b ((i + 1).toNat)), .slice (PF1.a ((i + 1).toNat)) (PF1.q ((i + 1).toNat)) (PF1.c ((i + 1).toNat)), .bool (PF1.b2 ((i + 1).toNat)), .slice (PF1.a2 ((i + 1).toNat)) (PF1.q2 ((i + 1).toNat)) (PF1.c2 ((i + 1).toNat))])
              have nhb0 : Below w.heap.size w V17 := by rw [hV17]; exact (blw_setL hb0 (by have := D5.out; omega) 4 [.bool (PF1.b ((i + 1).toNat)), .slice (PF1.a ((i + 1).toNat)) (PF1.q ((i + 1).toNat)) (PF1.c ((i + 1).toNat)), .bool (PF1.b2 ((i + 1).toNat)), .slice (PF1.a2 ((i + 1).toNat)) (PF1.q2 ((i + 1).toNat)) (PF1.c2 ((i + 1).toNat))])
              replace HB1 : Hid (RS V17 pg1 pc1 pn1 PF1) := Lib.hid (by rw [hV17]; exact (rs_setL HB1.out k5 (by decide) (Blk.cell k5 0) (fun _ h => by cases h) 4 [.bool (PF1.b ((i + 1).toNat)), .slice (PF1.a ((i + 1).toNat)) (PF1.q ((i + 1).toNat)) (PF1.c ((i + 1).toNat)), .bool (PF1.b2 ((i + 1).toNat)), .slice (PF1.a2 ((i + 1).toNat)) (PF1.q2 ((i + 1).toNat)) (PF1.c2 ((i + 1).toNat))]))
              replace HB2 : Hid (Big V17 (.agg #[.bool nA, .slice aA lA cA]) fN 18) := Lib.hid (by rw [hV17]; exact (big_setL HB2.out (Blk.cell k5 0) (fun _ h => by cases h) 4 [.bool (PF1.b ((i + 1).toNat)), .slice (PF1.a ((i + 1).toNat)) (PF1.q ((i + 1).toNat)) (PF1.c ((i + 1).toNat)), .bool (PF1.b2 ((i + 1).toNat)), .slice (PF1.a2 ((i + 1).toNat)) (PF1.q2 ((i + 1).toNat)) (PF1.c2 ((i + 1).toNat))]))
              replace HB3 : Hid (Big V17 (.agg #[.bool nB, .slice aB lB cB]) fD 18) := Lib.hid (by rw [hV17]; exact (big_setL HB3.out (Blk.cell k5 0) (fun _ h => by cases h) 4 [.bool (PF1.b ((i + 1).toNat)), .slice (PF1.a ((i + 1).toNat)) (PF1.q ((i + 1).toNat)) (PF1.c ((i + 1).toNat)), .bool (PF1.b2 ((i + 1).toNat)), .slice (PF1.a2 ((i + 1).toNat)) (PF1.q2 ((i + 1).toNat)) (PF1.c2 ((i + 1).toNat))]))
              replace HB6 : Hid (Big V17 (.agg #[.bool bn6, .slice ba6 bl6 bc6]) r2 46) := Lib.hid (by rw [hV17]; exact (big_setL HB6.out (Blk.cell k5 0) (fun _ h => by cases h) 4 [.bool (PF1.b ((i + 1).toNat)), .slice (PF1.a ((i + 1).toNat)) (PF1.q ((i + 1).toNat)) (PF1.c ((i + 1).toNat)), .bool (PF1.b2 ((i + 1).toNat)), .slice (PF1.a2 ((i + 1).toNat)) (PF1.q2 ((i + 1).toNat)) (PF1.c2 ((i + 1).toNat))]))
              replace HB7 : Hid (Big V17 (.agg #[.bool bn7, .slice ba7 bl7 bc7]) r3 46) := Lib.hid (by rw [hV17]; exact (big_setL HB7.out (Blk.cell k5 0) (fun _ h => by cases h) 4 [.bool (PF1.b ((i + 1).toNat)), .slice (PF1.a ((i + 1).toNat)) (PF1.q ((i + 1).toNat)) (PF1.c ((i + 1).toNat)), .bool (PF1.b2 ((i + 1).toNat)), .slice (PF1.a2 ((i + 1).toNat)) (PF1.q2 ((i + 1).toNat)) (PF1.c2 ((i + 1).toNat))]))
              replace HB8 : Hid (Big V17 (.agg #[.bool bn8, .slice ba8 bl8 bc8]) r4 40) := Lib.hid (by rw [hV17]; exact (big_setL HB8.out (Blk.cell k5 0) (fun _ h => by cases h) 4 [.bool (PF1.b ((i + 1).toNat)), .slice (PF1.a ((i + 1).toNat)) (PF1.q ((i + 1).toNat)) (PF1.c ((i + 1).toNat)), .bool (PF1.b2 ((i + 1).toNat)), .slice (PF1.a2 ((i + 1).toNat)) (PF1.q2 ((i + 1).toNat)) (PF1.c2 ((i + 1).toNat))]))
              replace HB9 : Hid (Big V17 (.agg #[.bool bn9, .slice ba9 bl9 bc9]) r7 37) := Lib.hid (by rw [hV17]; exact (big_setL HB9.out (Blk.cell k5 0) (fun _ h => by cases h) 4 [.bool (PF1.b ((i + 1).toNat)), .slice (PF1.a ((i + 1).toNat)) (PF1.q ((i + 1).toNat)) (PF1.c ((i + 1).toNat)), .bool (PF1.b2 ((i + 1).toNat)), .slice (PF1.a2 ((i + 1).toNat)) (PF1.q2 ((i + 1).toNat)) (PF1.c2 ((i + 1).toNat))]))
              replace HB10 : Hid (Big V17 (.agg #[.bool bn10, .slice ba10 bl10 bc10]) r8 37) := Lib.hid (by rw [hV17]; exact (big_setL HB10.out (Blk.cell k5 0) (fun _ h => by cases h) 4 [.bool (PF1.b ((i + 1).toNat)), .slice (PF1.a ((i + 1).toNat)) (PF1.q ((i + 1).toNat)) (PF1.c ((i + 1).toNat)), .bool (PF1.b2 ((i + 1).toNat)), .slice (PF1.a2 ((i + 1).toNat)) (PF1.q2 ((i + 1).toNat)) (PF1.c2 ((i + 1).toNat))]))
              replace HB11 : Hid (Big V17 (.agg #[.bool bn11, .slice ba11 bl11 bc11]) r9 46) := Lib.hid (by rw [hV17]; exact (big_setL HB11.out (Blk.cell k5 0) (fun _ h => by cases h) 4 [.bool (PF1.b ((i + 1).toNat)), .slice (PF1.a ((i + 1).toNat)) (PF1.q ((i + 1).toNat)) (PF1.c ((i + 1).toNat)), .bool (PF1.b2 ((i + 1).toNat)), .slice (PF1.a2 ((i + 1).toNat)) (PF1.q2 ((i + 1).toNat)) (PF1.c2 ((i + 1).toNat))]))
              replace HB12 : Hid (Big V17 (.agg #[.bool bn12, .slice ba12 bl12 bc12]) r10 46) := Lib.hid (by rw [hV17]; exact (big_setL HB12.out (Blk.cell k5 0) (fun _ h => by cases h) 4 [.bool (PF1.b ((i + 1).toNat)), .slice (PF1.a ((i + 1).toNat)) (PF1.q ((i + 1).toNat)) (PF1.c ((i + 1).toNat)), .bool (PF1.b2 ((i + 1).toNat)), .slice (PF1.a2 ((i + 1).toNat)) (PF1.q2 ((i + 1).toNat)) (PF1.c2 ((i + 1).toNat))]))
              replace HB13 : Hid (Big V17 (.agg #[.bool bn13, .slice ba13 bl13 bc13]) r11 40) := Lib.hid (by rw [hV17]; exact (big_setL HB13.out (Blk.cell k5 0) (fun _ h => by cases h) 4 [.bool (PF1.b ((i + 1).toNat)), .slice (PF1.a ((i + 1).toNat)) (PF1.q ((i + 1).toNat)) (PF1.c ((i + 1).toNat)), .bool (PF1.b2 ((i + 1).toNat)), .slice (PF1.a2 ((i + 1).toNat)) (PF1.q2 ((i + 1).toNat)) (PF1.c2 ((i + 1).toNat))]))
              clear k1 k2 k3 k4 k5
              clear hb0
              clear hV17
              have k1 := nk1
              clear nk1
              have k2 := nk2
              clear nk2
              have k3 := nk3
              clear nk3
              have k4 := nk4
              clear nk4
              have k5 := nk5
              clear nk5
              have hb0 := nhb0
              clear nhb0
              have hV15 := hs_
              clear hs_
              have D50 := Lib.hid k1.lt
              have D51 := Lib.hid k2.lt
              have D52 := Lib.hid k3.lt
              have D53 := Lib.hid k4.lt
              have D54 := Lib.hid k5.lt
              have D55 := Lib.hid hb0.size
              have nk1 : Blk V15 w.heap.size #[.int .i64 ax, .int .i64 ay] 31 := by rw [hV15]; exact (blk_setL k1 (by have := D1.out; omega) 9 [.bool true])
              have nk2 : Blk V15 (w.heap.size + 1) #[.int .i64 bx, .int .i64 b_y] 31 := by rw [hV15]; exact (blk_setL k2 (by have := D2.out; omega) 9 [.bool true])
              have nk3 : Blk V15 (w.heap.size + 1 + 1) #[.int .i64 cx, .int .i64 cy] 31 := by rw [hV15]; exact (blk_setL k3 (by have := D3.out; omega) 9 [.bool true])
              have nk4 : Blk V15 (w.heap.size + 1 + 1 + 1) #[.bool false, .slice none 0 0, .bool false, .slice none 0 0, .bool false, .slice none 0 0, .bool false, .slice none 0 0, .bool false, .bool false, .bool false] 62 := by rw [hV15]; exact (blk_setL k4 (by have := D4.out; omega) 9 [.bool true])
              have nk5 : Blk V15 U2.heap.size #[.bool nA, .slice aA lA cA, .bool nB, .slice aB lB cB, .bool (PF1.b ((i + 1).toNat)), .slice (PF1.a ((i + 1).toNat)) (PF1.q ((i + 1).toNat)) (PF1.c ((i + 1).toNat)), .bool (PF1.b2 ((i + 1).toNat)), .slice (PF1.a2 ((i + 1).toNat)) (PF1.q2 ((i + 1).toNat)) (PF1.c2 ((i + 1).toNat)), .bool so, .bool true, .bool true] 62 := by rw [hV15]; exact (blk_putL k5 9 [.bool true])
              have nhb0 : Below w.heap.size w V15 := by rw [hV15]; exact (blw_setL hb0 (by have := D5.out; omega) 9 [.bool true])
              replace HB1 : Hid (RS V15 pg1 pc1 pn1 PF1) := Lib.hid (by rw [hV15]; exact (rs_setL HB1.out k5 (by decide) (Blk.cell k5 0) (fun _ h => by cases h) 9 [.bool true]))
              replace HB2 : Hid (Big V15 (.agg #[.bool nA, .slice aA lA cA]) fN 18) := Lib.hid (by rw [hV15]; exact (big_setL HB2.out (Blk.cell k5 0) (fun _ h => by cases h) 9 [.bool true]))
              replace HB3 : Hid (Big V15 (.agg #[.bool nB, .slice aB lB cB]) fD 18) := Lib.hid (by rw [hV15]; exact (big_setL HB3.out (Blk.cell k5 0) (fun _ h => by cases h) 9 [.bool true]))
              replace HB6 : Hid (Big V15 (.agg #[.bool bn6, .slice ba6 bl6 bc6]) r2 46) := Lib.hid (by rw [hV15]; exact (big_setL HB6.out (Blk.cell k5 0) (fun _ h => by cases h) 9 [.bool true]))
              replace HB7 : Hid (Big V15 (.agg #[.bool bn7, .slice ba7 bl7 bc7]) r3 46) := Lib.hid (by rw [hV15]; exact (big_setL HB7.out (Blk.cell k5 0) (fun _ h => by cases h) 9 [.bool true]))
              replace HB8 : Hid (Big V15 (.agg #[.bool bn8, .slice ba8 bl8 bc8]) r4 40) := Lib.hid (by rw [hV15]; exact (big_setL HB8.out (Blk.cell k5 0) (fun _ h => by cases h) 9 [.bool true]))
              replace HB9 : Hid (Big V15 (.agg #[.bool bn9, .slice ba9 bl9 bc9]) r7 37) := Lib.hid (by rw [hV15]; exact (big_setL HB9.out (Blk.cell k5 0) (fun _ h => by cases h) 9 [.bool true]))
              replace HB10 : Hid (Big V15 (.agg #[.bool bn10, .slice ba10 bl10 bc10]) r8 37) := Lib.hid (by rw [hV15]; exact (big_setL HB10.out (Blk.cell k5 0) (fun _ h => by cases h) 9 [.bool true]))
              replace HB11 : Hid (Big V15 (.agg #[.bool bn11, .slice ba11 bl11 bc11]) r9 46) := Lib.hid (by rw [hV15]; exact (big_setL HB11.out (Blk.cell k5 0) (fun _ h => by cases h) 9 [.bool true]))
              replace HB12 : Hid (Big V15 (.agg #[.bool bn12, .slice ba12 bl12 bc12]) r10 46) := Lib.hid (by rw [hV15]; exact (big_setL HB12.out (Blk.cell k5 0) (fun _ h => by cases h) 9 [.bool true]))
              replace HB13 : Hid (Big V15 (.agg #[.bool bn13, .slice ba13 bl13 bc13]) r11 40) := Lib.hid (by rw [hV15]; exact (big_setL HB13.out (Blk.cell k5 0) (fun _ h => by cases h) 9 [.bool true]))
              clear k1 k2 k3 k4 k5
              clear hb0
              clear hV15
              have k1 := nk1
              clear nk1
              have k2 := nk2
              clear nk2
              have k3 := nk3
              clear nk3
              have k4 := nk4
              clear nk4
              have k5 := nk5
              clear nk5
              have hb0 := nhb0
              clear nhb0
              have HIn : CuI ax ay bx b_y cx cy n PF1 pn1 (i + 1) ⟨true, fN, fD, (PF1.N ((i + 1).toNat)), (PF1.D ((i + 1).toNat)), so, true⟩ ∧ pn1 - (i + 1).toNat ≤ ((pn1 - ((i + 1)).toNat) : Nat) := by
                first
                  | (exact ⟨CuI.more HI1.out.1 hz1 hz6 (by have p1 := PC_v Hr2.out Hr3.out Hr4.out Hz5.out; have p2 := PM_v Hr7.out Hr8.out Hr9.out Hr10.out Hr11.out Hz12.out; unfold midF hitF; simp only [p1, p2, cond_true, cond_false]), by have := HI1.out.2; have := of_decide_eq_true hz1; have := HI1.out.1.1; omega⟩)
                  | (exact ⟨CuI.last HI1.out.1 hz1 hz6 (by have p1 := PC_v Hr2.out Hr3.out Hr4.out Hz5.out; unfold hitF; simp only [p1, cond_true, cond_false]), by have := HI1.out.2; have := of_decide_eq_true hz1; have := HI1.out.1.1; omega⟩)
              try rw [show (wrap64 (i + 1)) = (i + 1) from (HI1.out.1.w HM1.out)]
              go_roundg (pn1 - ((i + 1)).toNat)
              case measure =>
                have q_ := of_decide_eq_true hz1
                have q2_ := HI1.out.2
                have q3_ := HI1.out.1.1
                omega
              case rel => exact ⟨(i + 1), fN, fD, (PF1.N ((i + 1).toNat)), (PF1.D ((i + 1).toNat)), so, true, true, nA, aA, lA, cA, nB, aB, lB, cB, (PF1.b ((i + 1).toNat)), (PF1.a ((i + 1).toNat)), (PF1.q ((i + 1).toNat)), (PF1.c ((i + 1).toNat)), (PF1.b2 ((i + 1).toNat)), (PF1.a2 ((i + 1).toNat)), (PF1.q2 ((i + 1).toNat)), (PF1.c2 ((i + 1).toNat)), rfl, Lib.hid HIn, k1, k2, k3, k4, k5, HB1.out, HB2.out, HB3.out, (RS.num HB1.out _ (ixlt (HI1.out.1.ix1 hz6))), (RS.den HB1.out _ (ixlt (HI1.out.1.ix1 hz6))), hb0⟩
      · cases ss
        · have c5_0 : U6.cell? ⟨U2.heap.size, 0, none⟩ = some (.bool nA) := k5.cell 0
          have c5_1 : U6.cell? ⟨U2.heap.size, 1, none⟩ = some (.slice aA lA cA) := k5.cell 1
          have c5_2 : U6.cell? ⟨U2.heap.size, 2, none⟩ = some (.bool nB) := k5.cell 2
          have c5_3 : U6.cell? ⟨U2.heap.size, 3, none⟩ = some (.slice aB lB cB) := k5.cell 3
          have c5_4 : U6.cell? ⟨U2.heap.size, 4, none⟩ = some (.bool nC) := k5.cell 4
          have c5_5 : U6.cell? ⟨U2.heap.size, 5, none⟩ = some (.slice aC lC cC) := k5.cell 5
          have c5_6 : U6.cell? ⟨U2.heap.size, 6, none⟩ = some (.bool nE) := k5.cell 6
          have c5_7 : U6.cell? ⟨U2.heap.size, 7, none⟩ = some (.slice aE lE cE) := k5.cell 7
          have c5_9 : U6.cell? ⟨U2.heap.size, 9, none⟩ = some (.bool su) := k5.cell 9
          have c5_10 : U6.cell? ⟨U2.heap.size, 10, none⟩ = some (.bool false) := k5.cell 10
          have f5_0 := k5.free 0
          have f5_1 := k5.free 1
          have f5_2 := k5.free 2
          have f5_3 := k5.free 3
          have f5_4 := k5.free 4
          have f5_5 := k5.free 5
          have f5_6 := k5.free 6
          have f5_7 := k5.free 7
          have f5_9 := k5.free 9
          have f5_10 := k5.free 10
          have l5 := k5.lt
          have ea0 : (0 : Int) ≤ i := ((HI1.out.1.ix hz1)).1
          have eb0 : (i : Int) < (pn1 : Int) := ((HI1.out.1.ix hz1)).2
          have el0 := RS.lt HB1.out
          have ec0_0 : U6.cell? ⟨pg1, i.toNat * 4, none⟩ = some (.bool (PF1.b (i.toNat))) := RS.c0 HB1.out (ixlt (HI1.out.1.ix hz1))
          have ec0_1 : U6.cell? ⟨pg1, i.toNat * 4 + 1, none⟩ = some (.slice (PF1.a (i.toNat)) (PF1.q (i.toNat)) (PF1.c (i.toNat))) := RS.c1 HB1.out (ixlt (HI1.out.1.ix hz1))
          have ec0_2 : U6.cell? ⟨pg1, i.toNat * 4 + 2, none⟩ = some (.bool (PF1.b2 (i.toNat))) := RS.c2 HB1.out (ixlt (HI1.out.1.ix hz1))
          have ec0_3 : U6.cell? ⟨pg1, i.toNat * 4 + 3, none⟩ = some (.slice (PF1.a2 (i.toNat)) (PF1.q2 (i.toNat)) (PF1.c2 (i.toNat))) := RS.c3 HB1.out (ixlt (HI1.out.1.ix hz1))
          have en0_5 := rs_ne HB1.out k5 (by decide)
          have em0_5 := en0_5.symm
          go_wp2_with fail
          clear c5_0 c5_1 c5_2 c5_3 c5_4 c5_5 c5_6 c5_7 c5_9 c5_10 f5_0 f5_1 f5_2 f5_3 f5_4 f5_5 f5_6 f5_7 f5_9 f5_10 l5 ea0 eb0 el0 ec0_0 ec0_1 ec0_2 ec0_3 en0_5 em0_5
          first | refine calls_w ?_ | refine name_world ?_ | refine list_world ?_ | refine post_world ?_
          intro V18 hV18
          clear HB2 HB3 HB4 HB5
          have hs_ : V18 = (setL (setL (setL (setL U6 U2.heap.size 0 [.bool (PF1.b (i.toNat)), .slice (PF1.a (i.toNat)) (PF1.q (i.toNat)) (PF1.c (i.toNat)), .bool (PF1.b2 (i.toNat)), .slice (PF1.a2 (i.toNat)) (PF1.q2 (i.toNat)) (PF1.c2 (i.toNat))]) U2.heap.size 10 [.bool true]) U2.heap.size 4 [.bool (PF1.b (i.toNat)), .slice (PF1.a (i.toNat)) (PF1.q (i.toNat)) (PF1.c (i.toNat)), .bool (PF1.b2 (i.toNat)), .slice (PF1.a2 (i.toNat)) (PF1.q2 (i.toNat)) (PF1.c2 (i.toNat))]) U2.heap.size 9 [.bool false]) := hV18
          clear hV18
          obtain ⟨V19, hV19⟩ : ∃ v_ : World, v_ = setL U6 U2.heap.size 0 [.bool (PF1.b (i.toNat)), .slice (PF1.a (i.toNat)) (PF1.q (i.toNat)) (PF1.c (i.toNat)), .bool (PF1.b2 (i.toNat)), .slice (PF1.a2 (i.toNat)) (PF1.q2 (i.toNat)) (PF1.c2 (i.toNat))] := ⟨_, rfl⟩
          rw [← hV19] at hs_
          have D56 := Lib.hid k1.lt
          have D57 := Lib.hid k2.lt
          have D58 := Lib.hid k3.lt
          have D59 := Lib.hid k4.lt
          have D60 := Lib.hid k5.lt
          have D61 := Lib.hid hb0.size
          have nk1 : Blk V19 w.heap.size #[.int .i64 ax, .int .i64 ay] 31 := by rw [hV19]; exact (blk_setL k1 (by have := D1.out; omega) 0 [.bool (PF1.b (i.toNat)), .slice (PF1.a (i.toNat)) (PF1.q (i.toNat)) (PF1.c (i.toNat)), .bool (PF1.b2 (i.toNat)), .slice (PF1.a2 (i.toNat)) (PF1.q2 (i.toNat)) (PF1.c2 (i.toNat))])
          have nk2 : Blk V19 (w.heap.size + 1) #[.int .i64 bx, .int .i64 b_y] 31 := by rw [hV19]; exact (blk_setL k2 (by have := D2.out; omega) 0 [.bool (PF1.b (i.toNat)), .slice (PF1.a (i.toNat)) (PF1.q (i.toNat)) (PF1.c (i.toNat)), .bool (PF1.b2 (i.toNat)), .slice (PF1.a2 (i.toNat)) (PF1.q2 (i.toNat)) (PF1.c2 (i.toNat))])
          have nk3 : Blk V19 (w.heap.size + 1 + 1) #[.int .i64 cx, .int .i64 cy] 31 := by rw [hV19]; exact (blk_setL k3 (by have := D3.out; omega) 0 [.bool (PF1.b (i.toNat)), .slice (PF1.a (i.toNat)) (PF1.q (i.toNat)) (PF1.c (i.toNat)), .bool (PF1.b2 (i.toNat)), .slice (PF1.a2 (i.toNat)) (PF1.q2 (i.toNat)) (PF1.c2 (i.toNat))])
          have nk4 : Blk V19 (w.heap.size + 1 + 1 + 1) #[.bool false, .slice none 0 0, .bool false, .slice none 0 0, .bool false, .slice none 0 0, .bool false, .slice none 0 0, .bool false, .bool false, .bool false] 62 := by rw [hV19]; exact (blk_setL k4 (by have := D4.out; omega) 0 [.bool (PF1.b (i.toNat)), .slice (PF1.a (i.toNat)) (PF1.q (i.toNat)) (PF1.c (i.toNat)), .bool (PF1.b2 (i.toNat)), .slice (PF1.a2 (i.toNat)) (PF1.q2 (i.toNat)) (PF1.c2 (i.toNat))])
          have nk5 : Blk V19 U2.heap.size #[.bool (PF1.b (i.toNat)), .slice (PF1.a (i.toNat)) (PF1.q (i.toNat)) (PF1.c (i.toNat)), .bool (PF1.b2 (i.toNat)), .slice (PF1.a2 (i.toNat)) (PF1.q2 (i.toNat)) (PF1.c2 (i.toNat)), .bool nC, .slice aC lC cC, .bool nE, .slice aE lE cE, .bool so, .bool su, .bool false] 62 := by rw [hV19]; exact (blk_putL k5 0 [.bool (PF1.b (i.toNat)), .slice (PF1.a (i.toNat)) (PF1.q (i.toNat)) (PF1.c (i.toNat)), .bool (PF1.b2 (i.toNat)), .slice (PF1.a2 (i.toNat)) (PF1.q2 (i.toNat)) (PF1.c2 (i.toNat))])
          have nhb0 : Below w.heap.size w V19 := by rw [hV19]; exact (blw_setL hb0 (by have := D5.out; omega) 0 [.bool (PF1.b (i.toNat)), .slice (PF1.a (i.toNat)) (PF1.q (i.toNat)) (PF1.c (i.toNat)), .bool (PF1.b2 (i.toNat)), .slice (PF1.a2 (i.toNat)) (PF1.q2 (i.toNat)) (PF1.c2 (i.toNat))])
          replace HB1 : Hid (RS V19 pg1 pc1 pn1 PF1) := Lib.hid (by rw [hV19]; exact (rs_setL HB1.out k5 (by decide) (Blk.cell k5 0) (fun _ h => by cases h) 0 [.bool (PF1.b (i.toNat)), .slice (PF1.a (i.toNat)) (PF1.q (i.toNat)) (PF1.c (i.toNat)), .bool (PF1.b2 (i.toNat)), .slice (PF1.a2 (i.toNat)) (PF1.q2 (i.toNat)) (PF1.c2 (i.toNat))]))
          replace HB6 : Hid (Big V19 (.agg #[.bool bn6, .slice ba6 bl6 bc6]) r2 46) := Lib.hid (by rw [hV19]; exact (big_setL HB6.out (Blk.cell k5 0) (fun _ h => by cases h) 0 [.bool (PF1.b (i.toNat)), .slice (PF1.a (i.toNat)) (PF1.q (i.toNat)) (PF1.c (i.toNat)), .bool (PF1.b2 (i.toNat)), .slice (PF1.a2 (i.toNat)) (PF1.q2 (i.toNat)) (PF1.c2 (i.toNat))]))
          replace HB7 : Hid (Big V19 (.agg #[.bool bn7, .slice ba7 bl7 bc7]) r3 46) := Lib.hid (by rw [hV19]; exact (big_setL HB7.out (Blk.cell k5 0) (fun _ h => by cases h) 0 [.bool (PF1.b (i.toNat)), .slice (PF1.a (i.toNat)) (PF1.q (i.toNat)) (PF1.c (i.toNat)), .bool (PF1.b2 (i.toNat)), .slice (PF1.a2 (i.toNat)) (PF1.q2 (i.toNat)) (PF1.c2 (i.toNat))]))
          replace HB8 : Hid (Big V19 (.agg #[.bool bn8, .slice ba8 bl8 bc8]) r4 40) := Lib.hid (by rw [hV19]; exact (big_setL HB8.out (Blk.cell k5 0) (fun _ h => by cases h) 0 [.bool (PF1.b (i.toNat)), .slice (PF1.a (i.toNat)) (PF1.q (i.toNat)) (PF1.c (i.toNat)), .bool (PF1.b2 (i.toNat)), .slice (PF1.a2 (i.toNat)) (PF1.q2 (i.toNat)) (PF1.c2 (i.toNat))]))
          clear k1 k2 k3 k4 k5
          clear hb0
          clear hV19
          have k1 := nk1
          clear nk1
          have k2 := nk2
          clear nk2
          have k3 := nk3
          clear nk3
          have k4 := nk4
          clear nk4
          have k5 := nk5
          clear nk5
          have hb0 := nhb0
          clear nhb0
          obtain ⟨V20, hV20⟩ : ∃ v_ : World, v_ = setL V19 U2.heap.size 10 [.bool true] := ⟨_, rfl⟩
          rw [← hV20] at hs_
          have D62 := Lib.hid k1.lt
          have D63 := Lib.hid k2.lt
          have D64 := Lib.hid k3.lt
          have D65 := Lib.hid k4.lt
          have D66 := Lib.hid k5.lt
          have D67 := Lib.hid hb0.size
          have nk1 : Blk V20 w.heap.size #[.int .i64 ax, .int .i64 ay] 31 := by rw [hV20]; exact (blk_setL k1 (by have := D1.out; omega) 10 [.bool true])
          have nk2 : Blk V20 (w.heap.size + 1) #[.int .i64 bx, .int .i64 b_y] 31 := by rw [hV20]; exact (blk_setL k2 (by have := D2.out; omega) 10 [.bool true])
          have nk3 : Blk V20 (w.heap.size + 1 + 1) #[.int .i64 cx, .int .i64 cy] 31 := by rw [hV20]; exact (blk_setL k3 (by have := D3.out; omega) 10 [.bool true])
          have nk4 : Blk V20 (w.heap.size + 1 + 1 + 1) #[.bool false, .slice none 0 0, .bool false, .slice none 0 0, .bool false, .slice none 0 0, .bool false, .slice none 0 0, .bool false, .bool false, .bool false] 62 := by rw [hV20]; exact (blk_setL k4 (by have := D4.out; omega) 10 [.bool true])
          have nk5 : Blk V20 U2.heap.size #[.bool (PF1.b (i.toNat)), .slice (PF1.a (i.toNat)) (PF1.q (i.toNat)) (PF1.c (i.toNat)), .bool (PF1.b2 (i.toNat)), .slice (PF1.a2 (i.toNat)) (PF1.q2 (i.toNat)) (PF1.c2 (i.toNat)), .bool nC, .slice aC lC cC, .bool nE, .slice aE lE cE, .bool so, .bool su, .bool true] 62 := by rw [hV20]; exact (blk_putL k5 10 [.bool true])
          have nhb0 : Below w.heap.size w V20 := by rw [hV20]; exact (blw_setL hb0 (by have := D5.out; omega) 10 [.bool true])
          replace HB1 : Hid (RS V20 pg1 pc1 pn1 PF1) := Lib.hid (by rw [hV20]; exact (rs_setL HB1.out k5 (by decide) (Blk.cell k5 0) (fun _ h => by cases h) 10 [.bool true]))
          replace HB6 : Hid (Big V20 (.agg #[.bool bn6, .slice ba6 bl6 bc6]) r2 46) := Lib.hid (by rw [hV20]; exact (big_setL HB6.out (Blk.cell k5 0) (fun _ h => by cases h) 10 [.bool true]))
          replace HB7 : Hid (Big V20 (.agg #[.bool bn7, .slice ba7 bl7 bc7]) r3 46) := Lib.hid (by rw [hV20]; exact (big_setL HB7.out (Blk.cell k5 0) (fun _ h => by cases h) 10 [.bool true]))
          replace HB8 : Hid (Big V20 (.agg #[.bool bn8, .slice ba8 bl8 bc8]) r4 40) := Lib.hid (by rw [hV20]; exact (big_setL HB8.out (Blk.cell k5 0) (fun _ h => by cases h) 10 [.bool true]))
          clear k1 k2 k3 k4 k5
          clear hb0
          clear hV20
          have k1 := nk1
          clear nk1
          have k2 := nk2
          clear nk2
          have k3 := nk3
          clear nk3
          have k4 := nk4
          clear nk4
          have k5 := nk5
          clear nk5
          have hb0 := nhb0
          clear nhb0
          obtain ⟨V21, hV21⟩ : ∃ v_ : World, v_ = setL V20 U2.heap.size 4 [.bool (PF1.b (i.toNat)), .slice (PF1.a (i.toNat)) (PF1.q (i.toNat)) (PF1.c (i.toNat)), .bool (PF1.b2 (i.toNat)), .slice (PF1.a2 (i.toNat)) (PF1.q2 (i.toNat)) (PF1.c2 (i.toNat))] := ⟨_, rfl⟩
          rw [← hV21] at hs_
          have D68 := Lib.hid k1.lt
          have D69 := Lib.hid k2.lt
          have D70 := Lib.hid k3.lt
          have D71 := Lib.hid k4.lt
          have D72 := Lib.hid k5.lt
          have D73 := Lib.hid hb0.size
          have nk1 : Blk V21 w.heap.size #[.int .i64 ax, .int .i64 ay] 31 := by rw [hV21]; exact (blk_setL k1 (by have := D1.out; omega) 4 [.bool (PF1.b (i.toNat)), .slice (PF1.a (i.toNat)) (PF1.q (i.toNat)) (PF1.c (i.toNat)), .bool (PF1.b2 (i.toNat)), .slice (PF1.a2 (i.toNat)) (PF1.q2 (i.toNat)) (PF1.c2 (i.toNat))])
          have nk2 : Blk V21 (w.heap.size + 1) #[.int .i64 bx, .int .i64 b_y] 31 := by rw [hV21]; exact (blk_setL k2 (by have := D2.out; omega) 4 [.bool (PF1.b (i.toNat)), .slice (PF1.a (i.toNat)) (PF1.q (i.toNat)) (PF1.c (i.toNat)), .bool (PF1.b2 (i.toNat)), .slice (PF1.a2 (i.toNat)) (PF1.q2 (i.toNat)) (PF1.c2 (i.toNat))])
          have nk3 : Blk V21 (w.heap.size + 1 + 1) #[.int .i64 cx, .int .i64 cy] 31 := by rw [hV21]; exact (blk_setL k3 (by have := D3.out; omega) 4 [.bool (PF1.b (i.toNat)), .slice (PF1.a (i.toNat)) (PF1.q (i.toNat)) (PF1.c (i.toNat)), .bool (PF1.b2 (i.toNat)), .slice (PF1.a2 (i.toNat)) (PF1.q2 (i.toNat)) (PF1.c2 (i.toNat))])
          have nk4 : Blk V21 (w.heap.size + 1 + 1 + 1) #[.bool false, .slice none 0 0, .bool false, .slice none 0 0, .bool false, .slice none 0 0, .bool false, .slice none 0 0, .bool false, .bool false, .bool false] 62 := by rw [hV21]; exact (blk_setL k4 (by have := D4.out; omega) 4 [.bool (PF1.b (i.toNat)), .slice (PF1.a (i.toNat)) (PF1.q (i.toNat)) (PF1.c (i.toNat)), .bool (PF1.b2 (i.toNat)), .slice (PF1.a2 (i.toNat)) (PF1.q2 (i.toNat)) (PF1.c2 (i.toNat))])
          have nk5 : Blk V21 U2.heap.size #[.bool (PF1.b (i.toNat)), .slice (PF1.a (i.toNat)) (PF1.q (i.toNat)) (PF1.c (i.toNat)), .bool (PF1.b2 (i.toNat)), .slice (PF1.a2 (i.toNat)) (PF1.q2 (i.toNat)) (PF1.c2 (i.toNat)), .bool (PF1.b (i.toNat)), .slice (PF1.a (i.toNat)) (PF1.q (i.toNat)) (PF1.c (i.toNat)), .bool (PF1.b2 (i.toNat)), .slice (PF1.a2 (i.toNat)) (PF1.q2 (i.toNat)) (PF1.c2 (i.toNat)), .bool so, .bool su, .bool true] 62 := by rw [hV21]; exact (blk_putL k5 4 [.bool (PF1.b (i.toNat)), .slice (PF1.a (i.toNat)) (PF1.q (i.toNat)) (PF1.c (i.toNat)), .bool (PF1.b2 (i.toNat)), .slice (PF1.a2 (i.toNat)) (PF1.q2 (i.toNat)) (PF1.c2 (i.toNat))])
          have nhb0 : Below w.heap.size w V21 := by rw [hV21]; exact (blw_setL hb0 (by have := D5.out; omega) 4 [.bool (PF1.b (i.toNat)), .slice (PF1.a (i.toNat)) (PF1.q (i.toNat)) (PF1.c (i.toNat)), .bool (PF1.b2 (i.toNat)), .slice (PF1.a2 (i.toNat)) (PF1.q2 (i.toNat)) (PF1.c2 (i.toNat))])
          replace HB1 : Hid (RS V21 pg1 pc1 pn1 PF1) := Lib.hid (by rw [hV21]; exact (rs_setL HB1.out k5 (by decide) (Blk.cell k5 0) (fun _ h => by cases h) 4 [.bool (PF1.b (i.toNat)), .slice (PF1.a (i.toNat)) (PF1.q (i.toNat)) (PF1.c (i.toNat)), .bool (PF1.b2 (i.toNat)), .slice (PF1.a2 (i.toNat)) (PF1.q2 (i.toNat)) (PF1.c2 (i.toNat))]))
          replace HB6 : Hid (Big V21 (.agg #[.bool bn6, .slice ba6 bl6 bc6]) r2 46) := Lib.hid (by rw [hV21]; exact (big_setL HB6.out (Blk.cell k5 0) (fun _ h => by cases h) 4 [.bool (PF1.b (i.toNat)), .slice (PF1.a (i.toNat)) (PF1.q (i.toNat)) (PF1.c (i.toNat)), .bool (PF1.b2 (i.toNat)), .slice (PF1.a2 (i.toNat)) (PF1.q2 (i.toNat)) (PF1.c2 (i.toNat))]))
          replace HB7 : Hid (Big V21 (.agg #[.bool bn7, .slice ba7 bl7 bc7]) r3 46) := Lib.hid (by rw [hV21]; exact (big_setL HB7.out (Blk.cell k5 0) (fun _ h => by cases h) 4 [.bool (PF1.b (i.toNat)), .slice (PF1.a (i.toNat)) (PF1.q (i.toNat)) (PF1.c (i.toNat)), .bool (PF1.b2 (i.toNat)), .slice (PF1.a2 (i.toNat)) (PF1.q2 (i.toNat)) (PF1.c2 (i.toNat))]))
          replace HB8 : Hid (Big V21 (.agg #[.bool bn8, .slice ba8 bl8 bc8]) r4 40) := Lib.hid (by rw [hV21]; exact (big_setL HB8.out (Blk.cell k5 0) (fun _ h => by cases h) 4 [.bool (PF1.b (i.toNat)), .slice (PF1.a (i.toNat)) (PF1.q (i.toNat)) (PF1.c (i.toNat)), .bool (PF1.b2 (i.toNat)), .slice (PF1.a2 (i.toNat)) (PF1.q2 (i.toNat)) (PF1.c2 (i.toNat))]))
          clear k1 k2 k3 k4 k5
          clear hb0
          clear hV21
          have k1 := nk1
          clear nk1
          have k2 := nk2
          clear nk2
          have k3 := nk3
          clear nk3
          have k4 := nk4
          clear nk4
          have k5 := nk5
          clear nk5
          have hb0 := nhb0
          clear nhb0
          have hV18 := hs_
          clear hs_
          have D74 := Lib.hid k1.lt
          have D75 := Lib.hid k2.lt
          have D76 := Lib.hid k3.lt
          have D77 := Lib.hid k4.lt
          have D78 := Lib.hid k5.lt
          have D79 := Lib.hid hb0.size
          have nk1 : Blk V18 w.heap.size #[.int .i64 ax, .int .i64 ay] 31 := by rw [hV18]; exact (blk_setL k1 (by have := D1.out; omega) 9 [.bool false])
          have nk2 : Blk V18 (w.heap.size + 1) #[.int .i64 bx, .int .i64 b_y] 31 := by rw [hV18]; exact (blk_setL k2 (by have := D2.out; omega) 9 [.bool false])
          have nk3 : Blk V18 (w.heap.size + 1 + 1) #[.int .i64 cx, .int .i64 cy] 31 := by rw [hV18]; exact (blk_setL k3 (by have := D3.out; omega) 9 [.bool false])
          have nk4 : Blk V18 (w.heap.size + 1 + 1 + 1) #[.bool false, .slice none 0 0, .bool false, .slice none 0 0, .bool false, .slice none 0 0, .bool false, .slice none 0 0, .bool false, .bool false, .bool false] 62 := by rw [hV18]; exact (blk_setL k4 (by have := D4.out; omega) 9 [.bool false])
          have nk5 : Blk V18 U2.heap.size #[.bool (PF1.b (i.toNat)), .slice (PF1.a (i.toNat)) (PF1.q (i.toNat)) (PF1.c (i.toNat)), .bool (PF1.b2 (i.toNat)), .slice (PF1.a2 (i.toNat)) (PF1.q2 (i.toNat)) (PF1.c2 (i.toNat)), .bool (PF1.b (i.toNat)), .slice (PF1.a (i.toNat)) (PF1.q (i.toNat)) (PF1.c (i.toNat)), .bool (PF1.b2 (i.toNat)), .slice (PF1.a2 (i.toNat)) (PF1.q2 (i.toNat)) (PF1.c2 (i.toNat)), .bool so, .bool false, .bool true] 62 := by rw [hV18]; exact (blk_putL k5 9 [.bool false])
          have nhb0 : Below w.heap.size w V18 := by rw [hV18]; exact (blw_setL hb0 (by have := D5.out; omega) 9 [.bool false])
          replace HB1 : Hid (RS V18 pg1 pc1 pn1 PF1) := Lib.hid (by rw [hV18]; exact (rs_setL HB1.out k5 (by decide) (Blk.cell k5 0) (fun _ h => by cases h) 9 [.bool false]))
          replace HB6 : Hid (Big V18 (.agg #[.bool bn6, .slice ba6 bl6 bc6]) r2 46) := Lib.hid (by rw [hV18]; exact (big_setL HB6.out (Blk.cell k5 0) (fun _ h => by cases h) 9 [.bool false]))
          replace HB7 : Hid (Big V18 (.agg #[.bool bn7, .slice ba7 bl7 bc7]) r3 46) := Lib.hid (by rw [hV18]; exact (big_setL HB7.out (Blk.cell k5 0) (fun _ h => by cases h) 9 [.bool false]))
          replace HB8 : Hid (Big V18 (.agg #[.bool bn8, .slice ba8 bl8 bc8]) r4 40) := Lib.hid (by rw [hV18]; exact (big_setL HB8.out (Blk.cell k5 0) (fun _ h => by cases h) 9 [.bool false]))
          clear k1 k2 k3 k4 k5
          clear hb0
          clear hV18
          have k1 := nk1
          clear nk1
          have k2 := nk2
          clear nk2
          have k3 := nk3
          clear nk3
          have k4 := nk4
          clear nk4
          have k5 := nk5
          clear nk5
          have hb0 := nhb0
          clear nhb0
          obtain ⟨z13, hz13⟩ : ∃ o_o : Bool, decide ((i + 1) < (pn1 : Int)) = o_o := ⟨_, rfl⟩
          cases z13
          · have xw0 : (wrap64 (i + 1)) = (i + 1) := (HI1.out.1.w HM1.out)
            have Kk1 := Lib.hid k1
            clear k1
            have Kk2 := Lib.hid k2
            clear k2
            have Kk3 := Lib.hid k3
            clear k3
            have Kk4 := Lib.hid k4
            clear k4
            have Kk5 := Lib.hid k5
            clear k5
            refine wp_region_up V18.heap.size 21 [(true, 0), (true, 1), (true, 2), (false, 3), (true, 4), (true, 5), (true, 6), (true, 7), (true, 8), (true, 9), (true, 10), (true, 11), (true, 12), (true, 13), (true, 14), (true, 15), (true, 16), (true, 19), (true, 20), (false, 17), (false, 18)] (by kernel_rfl) (by kernel_rfl) (fun _ _ d _ _ h => by cases d <;> exact h) ?_
            have hb : Below V18.heap.size V18 V18.drew := (Below.refl _ _).drew
            iterate 3
              refine wpS_takeL rfl rfl ?_
              go_big_quiet_step (rfl)
              refine wpQuiet_nil ?_
            refine wpS_doL rfl ?_
            intro K hK
            go_wp2_with (fail)
            try replace hb := hb.trans (hn.mono hb.size)
            refine hK.out _ _ (up_iff.2 hb) ?_
            clear hK K
            try clear hn
            iterate 15
              refine wpS_takeL rfl rfl ?_
              go_big_quiet_step (rfl)
              refine wpQuiet_nil ?_
            refine wpS_doL rfl ?_
            intro K hK
            go_wp2_with (fail)
            try replace hb := hb.trans (hn.mono hb.size)
            refine hK.out _ _ (up_iff.2 hb) ?_
            clear hK K
            try clear hn
            refine wpS_doL rfl ?_
            intro K hK
            go_wp2_with (fail)
            try replace hb := hb.trans (hn.mono hb.size)
            refine hK.out _ _ (up_iff.2 hb) ?_
            clear hK K
            try clear hn
            refine wpS_nil ?_
            simp only [List.drop_succ_cons, List.drop_zero]
            first | refine calls_w ?_ | refine name_world ?_ | refine list_world ?_ | refine post_world ?_
            intro U22 hU22
            first | (subst hU22; have u_ := U22; clear u_) | (rw [← hU22] at hb; clear hU22)
            clear xw0
            have k1 := Kk1.out.of hb
            clear Kk1
            have k2 := Kk2.out.of hb
            clear Kk2
            have k3 := Kk3.out.of hb
            clear Kk3
            have k4 := Kk4.out.of hb
            clear Kk4
            have k5 := Kk5.out.of hb
            clear Kk5
            replace HB1 := Lib.hid (HB1.out.of hb)
            replace HB6 := Lib.hid (HB6.out.of hb)
            replace HB7 := Lib.hid (HB7.out.of hb)
            replace HB8 := Lib.hid (HB8.out.of hb)
            replace hb0 := hb0.trans (hb.mono hb0.size)
            clear hb
            have xw0 : (wrap64 (i + 1)) = (i + 1) := (HI1.out.1.w HM1.out)
            go_wp2_with fail
            clear xw0
            have HIn : CuI ax ay bx b_y cx cy n PF1 pn1 (i + 1) ⟨true, (PF1.N (i.toNat)), (PF1.D (i.toNat)), (PF1.N (i.toNat)), (PF1.D (i.toNat)), so, false⟩ ∧ pn1 - (i + 1).toNat ≤ ((pn1 - ((i + 1)).toNat) : Nat) := by
              exact ⟨CuI.last HI1.out.1 hz1 hz13 (by have p1 := PC_v Hr2.out Hr3.out Hr4.out Hz5.out; unfold hitF; simp only [p1, cond_true, cond_false]), by have := HI1.out.2; have := of_decide_eq_true hz1; have := HI1.out.1.1; omega⟩
            try rw [show (wrap64 (i + 1)) = (i + 1) from (HI1.out.1.w HM1.out)]
            go_roundg (pn1 - ((i + 1)).toNat)
            case measure =>
              have q_ := of_decide_eq_true hz1
              have q2_ := HI1.out.2
              have q3_ := HI1.out.1.1
              omega
            case rel => exact ⟨(i + 1), (PF1.N (i.toNat)), (PF1.D (i.toNat)), (PF1.N (i.toNat)), (PF1.D (i.toNat)), so, false, true, (PF1.b (i.toNat)), (PF1.a (i.toNat)), (PF1.q (i.toNat)), (PF1.c (i.toNat)), (PF1.b2 (i.toNat)), (PF1.a2 (i.toNat)), (PF1.q2 (i.toNat)), (PF1.c2 (i.toNat)), (PF1.b (i.toNat)), (PF1.a (i.toNat)), (PF1.q (i.toNat)), (PF1.c (i.toNat)), (PF1.b2 (i.toNat)), (PF1.a2 (i.toNat)), (PF1.q2 (i.toNat)), (PF1.c2 (i.toNat)), rfl, Lib.hid HIn, k1, k2, k3, k4, k5, HB1.out, (RS.num HB1.out _ (ixlt (HI1.out.1.ix hz1))), (RS.den HB1.out _ (ixlt (HI1.out.1.ix hz1))), (RS.num HB1.out _ (ixlt (HI1.out.1.ix hz1))), (RS.den HB1.out _ (ixlt (HI1.out.1.ix hz1))), hb0⟩
          · obtain ⟨r14, hr14⟩ : ∃ o_o : Int, mdN (PF1.N (i.toNat)) (PF1.D (i.toNat)) (PF1.N ((i + 1).toNat)) (PF1.D ((i + 1).toNat)) = o_o := ⟨_, rfl⟩
            have Hr14 := Lib.hid hr14
            clear hr14
            obtain ⟨r15, hr15⟩ : ∃ o_o : Int, mdD (PF1.N (i.toNat)) (PF1.D (i.toNat)) (PF1.N ((i + 1).toNat)) (PF1.D ((i + 1).toNat)) = o_o := ⟨_, rfl⟩
            have Hr15 := Lib.hid hr15
            clear hr15
            obtain ⟨r16, hr16⟩ : ∃ o_o : Int, a15X ax ay bx b_y r14 r15 = o_o := ⟨_, rfl⟩
            have Hr16 := Lib.hid hr16
            clear hr16
            obtain ⟨r17, hr17⟩ : ∃ o_o : Int, a15Y ax ay bx b_y r14 r15 = o_o := ⟨_, rfl⟩
            have Hr17 := Lib.hid hr17
            clear hr17
            obtain ⟨r18, hr18⟩ : ∃ o_o : Int, a15W ax ay bx b_y r14 r15 = o_o := ⟨_, rfl⟩
            have Hr18 := Lib.hid hr18
            clear hr18
            have c1_0 : V18.cell? ⟨w.heap.size, 0, none⟩ = some (.int .i64 ax) := k1.cell 0
            have c1_1 : V18.cell? ⟨w.heap.size, 1, none⟩ = some (.int .i64 ay) := k1.cell 1
            have l1 := k1.lt
            have c2_0 : V18.cell? ⟨(w.heap.size + 1), 0, none⟩ = some (.int .i64 bx) := k2.cell 0
            have c2_1 : V18.cell? ⟨(w.heap.size + 1), 1, none⟩ = some (.int .i64 b_y) := k2.cell 1
            have l2 := k2.lt
            have c3_0 : V18.cell? ⟨(w.heap.size + 1 + 1), 0, none⟩ = some (.int .i64 cx) := k3.cell 0
            have c3_1 : V18.cell? ⟨(w.heap.size + 1 + 1), 1, none⟩ = some (.int .i64 cy) := k3.cell 1
            have l3 := k3.lt
            have xw0 : (wrap64 (i + 1)) = (i + 1) := (HI1.out.1.w HM1.out)
            have ea0 : (0 : Int) ≤ i := ((HI1.out.1.ix hz1)).1
            have eb0 : (i : Int) < (pn1 : Int) := ((HI1.out.1.ix hz1)).2
            have el0 := RS.lt HB1.out
            have ec0_0 : V18.cell? ⟨pg1, i.toNat * 4, none⟩ = some (.bool (PF1.b (i.toNat))) := RS.c0 HB1.out (ixlt (HI1.out.1.ix hz1))
            have ec0_1 : V18.cell? ⟨pg1, i.toNat * 4 + 1, none⟩ = some (.slice (PF1.a (i.toNat)) (PF1.q (i.toNat)) (PF1.c (i.toNat))) := RS.c1 HB1.out (ixlt (HI1.out.1.ix hz1))
            have ec0_2 : V18.cell? ⟨pg1, i.toNat * 4 + 2, none⟩ = some (.bool (PF1.b2 (i.toNat))) := RS.c2 HB1.out (ixlt (HI1.out.1.ix hz1))
            have ec0_3 : V18.cell? ⟨pg1, i.toNat * 4 + 3, none⟩ = some (.slice (PF1.a2 (i.toNat)) (PF1.q2 (i.toNat)) (PF1.c2 (i.toNat))) := RS.c3 HB1.out (ixlt (HI1.out.1.ix hz1))
            have ea1 : (0 : Int) ≤ (i + 1) := ((HI1.out.1.ix1 hz13)).1
            have eb1 : ((i + 1) : Int) < (pn1 : Int) := ((HI1.out.1.ix1 hz13)).2
            have el1 := RS.lt HB1.out
            have ec1_0 : V18.cell? ⟨pg1, (i + 1).toNat * 4, none⟩ = some (.bool (PF1.b ((i + 1).toNat))) := RS.c0 HB1.out (ixlt (HI1.out.1.ix1 hz13))
            have ec1_1 : V18.cell? ⟨pg1, (i + 1).toNat * 4 + 1, none⟩ = some (.slice (PF1.a ((i + 1).toNat)) (PF1.q ((i + 1).toNat)) (PF1.c ((i + 1).toNat))) := RS.c1 HB1.out (ixlt (HI1.out.1.ix1 hz13))
            have ec1_2 : V18.cell? ⟨pg1, (i + 1).toNat * 4 + 2, none⟩ = some (.bool (PF1.b2 ((i + 1).toNat))) := RS.c2 HB1.out (ixlt (HI1.out.1.ix1 hz13))
            have ec1_3 : V18.cell? ⟨pg1, (i + 1).toNat * 4 + 3, none⟩ = some (.slice (PF1.a2 ((i + 1).toNat)) (PF1.q2 ((i + 1).toNat)) (PF1.c2 ((i + 1).toNat))) := RS.c3 HB1.out (ixlt (HI1.out.1.ix1 hz13))
            have Kk1 := Lib.hid k1
            clear k1
            have Kk2 := Lib.hid k2
            clear k2
            have Kk3 := Lib.hid k3
            clear k3
            have Kk4 := Lib.hid k4
            clear k4
            have Kk5 := Lib.hid k5
            clear k5
            refine wp_region_up V18.heap.size 21 [(true, 0), (true, 1), (true, 2), (false, 3), (true, 4), (true, 5), (true, 6), (true, 7), (true, 8), (true, 9), (true, 10), (true, 11), (true, 12), (true, 13), (true, 14), (true, 15), (true, 16), (true, 19), (true, 20), (false, 17), (false, 18)] (by kernel_rfl) (by kernel_rfl) (fun _ _ d _ _ h => by cases d <;> exact h) ?_
            have hb : Below V18.heap.size V18 V18.drew := (Below.refl _ _).drew
            iterate 3
              refine wpS_takeL rfl rfl ?_
              go_big_quiet_step (rfl)
              refine wpQuiet_nil ?_
            refine wpS_doL rfl ?_
            intro K hK
            go_wp2_with ((first | (go_at_call 97; (with_reducible refine (Mid15_is (PF1.N (i.toNat)) (PF1.D (i.toNat)) (PF1.N ((i + 1).toNat)) (PF1.D ((i + 1).toNat)) r14 r15 Hr14.out Hr15.out  (PF1.b (i.toNat)) (PF1.a (i.toNat)) (PF1.q (i.toNat)) (PF1.c (i.toNat)) (PF1.b2 (i.toNat)) (PF1.a2 (i.toNat)) (PF1.q2 (i.toNat)) (PF1.c2 (i.toNat)) (PF1.b ((i + 1).toNat)) (PF1.a ((i + 1).toNat)) (PF1.q ((i + 1).toNat)) (PF1.c ((i + 1).toNat)) (PF1.b2 ((i + 1).toNat)) (PF1.a2 ((i + 1).toNat)) (PF1.q2 ((i + 1).toNat)) (PF1.c2 ((i + 1).toNat)) _ (RS.num (HB1.out.of hb) _ (ixlt (HI1.out.1.ix hz1))) (RS.den (HB1.out.of hb) _ (ixlt (HI1.out.1.ix hz1))) (RS.num (HB1.out.of hb) _ (ixlt (HI1.out.1.ix1 hz13))) (RS.den (HB1.out.of hb) _ (ixlt (HI1.out.1.ix1 hz13)))).mono ?_); rintro e w2 ⟨bn14, ba14, bl14, bc14, bn15, ba15, bl15, bc15, rfl, hbm14, hbm15, hn⟩; have HB14 := Lib.hid hbm14; have HB15 := Lib.hid hbm15; clear hbm14 hbm15) | (go_at_call 96; (with_reducible refine (At15_is ax ay bx b_y r14 r15 r16 r17 r18 Hr16.out Hr17.out Hr18.out _iax _iay _ibx _ib_y bn14 ba14 bl14 bc14 bn15 ba15 bl15 bc15 _ (HB14.out.mono (by decide)) (HB15.out.mono (by decide))).mono ?_); rintro e w2 ⟨bn16, ba16, bl16, bc16, bn17, ba17, bl17, bc17, bn18, ba18, bl18, bc18, rfl, hbm16, hbm17, hbm18, hn⟩; replace HB14 := Lib.hid (HB14.out.of hn); replace HB15 := Lib.hid (HB15.out.of hn); have HB16 := Lib.hid hbm16; have HB17 := Lib.hid hbm17; have HB18 := Lib.hid hbm18; clear hbm16 hbm17 hbm18)))
            try replace hb := hb.trans (hn.mono hb.size)
            refine hK.out _ _ (up_iff.2 hb) ?_
            clear hK K
            try clear hn
            iterate 15
              refine wpS_takeL rfl rfl ?_
              go_big_quiet_step (rfl)
              refine wpQuiet_nil ?_
            refine wpS_doL rfl ?_
            intro K hK
            go_wp2_with ((go_at_call 97; (with_reducible refine (Mid15_is (PF1.N (i.toNat)) (PF1.D (i.toNat)) (PF1.N ((i + 1).toNat)) (PF1.D ((i + 1).toNat)) r14 r15 Hr14.out Hr15.out  (PF1.b (i.toNat)) (PF1.a (i.toNat)) (PF1.q (i.toNat)) (PF1.c (i.toNat)) (PF1.b2 (i.toNat)) (PF1.a2 (i.toNat)) (PF1.q2 (i.toNat)) (PF1.c2 (i.toNat)) (PF1.b ((i + 1).toNat)) (PF1.a ((i + 1).toNat)) (PF1.q ((i + 1).toNat)) (PF1.c ((i + 1).toNat)) (PF1.b2 ((i + 1).toNat)) (PF1.a2 ((i + 1).toNat)) (PF1.q2 ((i + 1).toNat)) (PF1.c2 ((i + 1).toNat)) _ (RS.num (HB1.out.of hb) _ (ixlt (HI1.out.1.ix hz1))) (RS.den (HB1.out.of hb) _ (ixlt (HI1.out.1.ix hz1))) (RS.num (HB1.out.of hb) _ (ixlt (HI1.out.1.ix1 hz13))) (RS.den (HB1.out.of hb) _ (ixlt (HI1.out.1.ix1 hz13)))).mono ?_); rintro e w2 ⟨bn14, ba14, bl14, bc14, bn15, ba15, bl15, bc15, rfl, hbm14, hbm15, hn⟩; have HB14 := Lib.hid hbm14; have HB15 := Lib.hid hbm15; clear hbm14 hbm15))
            try replace hb := hb.trans (hn.mono hb.size)
            refine hK.out _ _ (up_iff.2 hb) ?_
            clear hK K
            try clear hn
            refine wpS_doL rfl ?_
            intro K hK
            go_wp2_with ((go_at_call 96; (with_reducible refine (At15_is ax ay bx b_y r14 r15 r16 r17 r18 Hr16.out Hr17.out Hr18.out _iax _iay _ibx _ib_y bn14 ba14 bl14 bc14 bn15 ba15 bl15 bc15 _ (HB14.out.mono (by decide)) (HB15.out.mono (by decide))).mono ?_); rintro e w2 ⟨bn16, ba16, bl16, bc16, bn17, ba17, bl17, bc17, bn18, ba18, bl18, bc18, rfl, hbm16, hbm17, hbm18, hn⟩; replace HB14 := Lib.hid (HB14.out.of hn); replace HB15 := Lib.hid (HB15.out.of hn); have HB16 := Lib.hid hbm16; have HB17 := Lib.hid hbm17; have HB18 := Lib.hid hbm18; clear hbm16 hbm17 hbm18))
            try replace hb := hb.trans (hn.mono hb.size)
            refine hK.out _ _ (up_iff.2 hb) ?_
            clear hK K
            try clear hn
            refine wpS_nil ?_
            simp only [List.drop_succ_cons, List.drop_zero]
            first | refine calls_w ?_ | refine name_world ?_ | refine list_world ?_ | refine post_world ?_
            intro U23 hU23
            first | (subst hU23; have u_ := U23; clear u_) | (rw [← hU23] at hb; clear hU23)
            clear c1_0 c1_1 l1 c2_0 c2_1 l2 c3_0 c3_1 l3 xw0 ea0 eb0 el0 ec0_0 ec0_1 ec0_2 ec0_3 ea1 eb1 el1 ec1_0 ec1_1 ec1_2 ec1_3
            have k1 := Kk1.out.of hb
            clear Kk1
            have k2 := Kk2.out.of hb
            clear Kk2
            have k3 := Kk3.out.of hb
            clear Kk3
            have k4 := Kk4.out.of hb
            clear Kk4
            have k5 := Kk5.out.of hb
            clear Kk5
            replace HB1 := Lib.hid (HB1.out.of hb)
            replace HB6 := Lib.hid (HB6.out.of hb)
            replace HB7 := Lib.hid (HB7.out.of hb)
            replace HB8 := Lib.hid (HB8.out.of hb)
            replace hb0 := hb0.trans (hb.mono hb0.size)
            clear hb
            go_wp2_with fail
            obtain ⟨z19, hz19⟩ : ∃ o_o : Bool, rin15L r16 r17 r18 cx cy n = o_o := ⟨_, rfl⟩
            have Hz19 := Lib.hid hz19
            clear hz19
            refine (rInL_is r16 r17 r18 cx cy n z19 Hz19.out _icx _icy _in bn16 ba16 bl16 bc16 bn17 ba17 bl17 bc17 bn18 ba18 bl18 bc18 _ (HB16.out.mono (by decide)) (HB17.out.mono (by decide)) (HB18.out.mono (by decide))).mono ?_
            rintro e U24 ⟨rfl, hn⟩
            replace k1 := k1.of hn
            replace k2 := k2.of hn
            replace k3 := k3.of hn
            replace k4 := k4.of hn
            replace k5 := k5.of hn
            replace HB1 := Lib.hid (HB1.out.of hn)
            replace HB6 := Lib.hid (HB6.out.of hn)
            replace HB7 := Lib.hid (HB7.out.of hn)
            replace HB8 := Lib.hid (HB8.out.of hn)
            replace HB14 := Lib.hid (HB14.out.of hn)
            replace HB15 := Lib.hid (HB15.out.of hn)
            replace HB16 := Lib.hid (HB16.out.of hn)
            replace HB17 := Lib.hid (HB17.out.of hn)
            replace HB18 := Lib.hid (HB18.out.of hn)
            replace hb0 := hb0.trans (hn.mono hb0.size)
            clear hn
            cases z19
            · have xw0 : (wrap64 (i + 1)) = (i + 1) := (HI1.out.1.w HM1.out)
              go_wp2_with fail
              clear xw0
              have HIn : CuI ax ay bx b_y cx cy n PF1 pn1 (i + 1) ⟨true, (PF1.N (i.toNat)), (PF1.D (i.toNat)), (PF1.N (i.toNat)), (PF1.D (i.toNat)), so, false⟩ ∧ pn1 - (i + 1).toNat ≤ ((pn1 - ((i + 1)).toNat) : Nat) := by
                first
                  | (exact ⟨CuI.more HI1.out.1 hz1 hz13 (by have p1 := PC_v Hr2.out Hr3.out Hr4.out Hz5.out; have p2 := PM_v Hr14.out Hr15.out Hr16.out Hr17.out Hr18.out Hz19.out; unfold midF hitF; simp only [p1, p2, cond_true, cond_false]), by have := HI1.out.2; have := of_decide_eq_true hz1; have := HI1.out.1.1; omega⟩)
                  | (exact ⟨CuI.last HI1.out.1 hz1 hz13 (by have p1 := PC_v Hr2.out Hr3.out Hr4.out Hz5.out; unfold hitF; simp only [p1, cond_true, cond_false]), by have := HI1.out.2; have := of_decide_eq_true hz1; have := HI1.out.1.1; omega⟩)
              try rw [show (wrap64 (i + 1)) = (i + 1) from (HI1.out.1.w HM1.out)]
              go_roundg (pn1 - ((i + 1)).toNat)
              case measure =>
                have q_ := of_decide_eq_true hz1
                have q2_ := HI1.out.2
                have q3_ := HI1.out.1.1
                omega
              case rel => exact ⟨(i + 1), (PF1.N (i.toNat)), (PF1.D (i.toNat)), (PF1.N (i.toNat)), (PF1.D (i.toNat)), so, false, true, (PF1.b (i.toNat)), (PF1.a (i.toNat)), (PF1.q (i.toNat)), (PF1.c (i.toNat)), (PF1.b2 (i.toNat)), (PF1.a2 (i.toNat)), (PF1.q2 (i.toNat)), (PF1.c2 (i.toNat)), (PF1.b (i.toNat)), (PF1.a (i.toNat)), (PF1.q (i.toNat)), (PF1.c (i.toNat)), (PF1.b2 (i.toNat)), (PF1.a2 (i.toNat)), (PF1.q2 (i.toNat)), (PF1.c2 (i.toNat)), rfl, Lib.hid HIn, k1, k2, k3, k4, k5, HB1.out, (RS.num HB1.out _ (ixlt (HI1.out.1.ix hz1))), (RS.den HB1.out _ (ixlt (HI1.out.1.ix hz1))), (RS.num HB1.out _ (ixlt (HI1.out.1.ix hz1))), (RS.den HB1.out _ (ixlt (HI1.out.1.ix hz1))), hb0⟩
            · have c5_4 : U24.cell? ⟨U2.heap.size, 4, none⟩ = some (.bool (PF1.b (i.toNat))) := k5.cell 4
              have c5_5 : U24.cell? ⟨U2.heap.size, 5, none⟩ = some (.slice (PF1.a (i.toNat)) (PF1.q (i.toNat)) (PF1.c (i.toNat))) := k5.cell 5
              have c5_6 : U24.cell? ⟨U2.heap.size, 6, none⟩ = some (.bool (PF1.b2 (i.toNat))) := k5.cell 6
              have c5_7 : U24.cell? ⟨U2.heap.size, 7, none⟩ = some (.slice (PF1.a2 (i.toNat)) (PF1.q2 (i.toNat)) (PF1.c2 (i.toNat))) := k5.cell 7
              have c5_9 : U24.cell? ⟨U2.heap.size, 9, none⟩ = some (.bool false) := k5.cell 9
              have c5_10 : U24.cell? ⟨U2.heap.size, 10, none⟩ = some (.bool true) := k5.cell 10
              have f5_4 := k5.free 4
              have f5_5 := k5.free 5
              have f5_6 := k5.free 6
              have f5_7 := k5.free 7
              have f5_9 := k5.free 9
              have f5_10 := k5.free 10
              have l5 := k5.lt
              have xw0 : (wrap64 (i + 1)) = (i + 1) := (HI1.out.1.w HM1.out)
              have ea0 : (0 : Int) ≤ (i + 1) := ((HI1.out.1.ix1 hz13)).1
              have eb0 : ((i + 1) : Int) < (pn1 : Int) := ((HI1.out.1.ix1 hz13)).2
              have el0 := RS.lt HB1.out
              have ec0_0 : U24.cell? ⟨pg1, (i + 1).toNat * 4, none⟩ = some (.bool (PF1.b ((i + 1).toNat))) := RS.c0 HB1.out (ixlt (HI1.out.1.ix1 hz13))
              have ec0_1 : U24.cell? ⟨pg1, (i + 1).toNat * 4 + 1, none⟩ = some (.slice (PF1.a ((i + 1).toNat)) (PF1.q ((i + 1).toNat)) (PF1.c ((i + 1).toNat))) := RS.c1 HB1.out (ixlt (HI1.out.1.ix1 hz13))
              have ec0_2 : U24.cell? ⟨pg1, (i + 1).toNat * 4 + 2, none⟩ = some (.bool (PF1.b2 ((i + 1).toNat))) := RS.c2 HB1.out (ixlt (HI1.out.1.ix1 hz13))
              have ec0_3 : U24.cell? ⟨pg1, (i + 1).toNat * 4 + 3, none⟩ = some (.slice (PF1.a2 ((i + 1).toNat)) (PF1.q2 ((i + 1).toNat)) (PF1.c2 ((i + 1).toNat))) := RS.c3 HB1.out (ixlt (HI1.out.1.ix1 hz13))
              have en0_5 := rs_ne HB1.out k5 (by decide)
              have em0_5 := en0_5.symm
              go_wp2_with fail
              clear c5_4 c5_5 c5_6 c5_7 c5_9 c5_10 f5_4 f5_5 f5_6 f5_7 f5_9 f5_10 l5 xw0 ea0 eb0 el0 ec0_0 ec0_1 ec0_2 ec0_3 en0_5 em0_5
              first | refine k_world ?_
              intro V25 hV25
              have hs_ : V25 = (setL (setL (setL U24 U2.heap.size 10 [.bool true]) U2.heap.size 4 [.bool (PF1.b ((i + 1).toNat)), .slice (PF1.a ((i + 1).toNat)) (PF1.q ((i + 1).toNat)) (PF1.c ((i + 1).toNat)), .bool (PF1.b2 ((i + 1).toNat)), .slice (PF1.a2 ((i + 1).toNat)) (PF1.q2 ((i + 1).toNat)) (PF1.c2 ((i + 1).toNat))]) U2.heap.size 9 [.bool true]) := hV25
              clear hV25
              obtain ⟨V26, hV26⟩ : ∃ v_ : World, v_ = setL U24 U2.heap.size 10 [.bool true] := ⟨_, rfl⟩
              rw [← hV26] at hs_
              have D80 := Lib.hid k1.lt
              have D81 := Lib.hid k2.lt
              have D82 := Lib.hid k3.lt
              have D83 := Lib.hid k4.lt
              have D84 := Lib.hid k5.lt
              have D85 := Lib.hid hb0.size
              have nk1 : Blk V26 w.heap.size #[.int .i64 ax, .int .i64 ay] 31 := by rw [hV26]; exact (blk_setL k1 (by have := D1.out; omega) 10 [.bool true])
              have nk2 : Blk V26 (w.heap.size + 1) #[.int .i64 bx, .int .i64 b_y] 31 := by rw [hV26]; exact (blk_setL k2 (by have := D2.out; omega) 10 [.bool true])
              have nk3 : Blk V26 (w.heap.size + 1 + 1) #[.int .i64 cx, .int .i64 cy] 31 := by rw [hV26]; exact (blk_setL k3 (by have := D3.out; omega) 10 [.bool true])
              have nk4 : Blk V26 (w.heap.size + 1 + 1 + 1) #[.bool false, .slice none 0 0, .bool false, .slice none 0 0, .bool false, .slice none 0 0, .bool false, .slice none 0 0, .bool false, .bool false, .bool false] 62 := by rw [hV26]; exact (blk_setL k4 (by have := D4.out; omega) 10 [.bool true])
              have nk5 : Blk V26 U2.heap.size #[.bool (PF1.b (i.toNat)), .slice (PF1.a (i.toNat)) (PF1.q (i.toNat)) (PF1.c (i.toNat)), .bool (PF1.b2 (i.toNat)), .slice (PF1.a2 (i.toNat)) (PF1.q2 (i.toNat)) (PF1.c2 (i.toNat)), .bool (PF1.b (i.toNat)), .slice (PF1.a (i.toNat)) (PF1.q (i.toNat)) (PF1.c (i.toNat)), .bool (PF1.b2 (i.toNat)), .slice (PF1.a2 (i.toNat)) (PF1.q2 (i.toNat)) (PF1.c2 (i.toNat)), .bool so, .bool false, .bool true] 62 := by rw [hV26]; exact (blk_putL k5 10 [.bool true])
              have nhb0 : Below w.heap.size w V26 := by rw [hV26]; exact (blw_setL hb0 (by have := D5.out; omega) 10 [.bool true])
              replace HB1 : Hid (RS V26 pg1 pc1 pn1 PF1) := Lib.hid (by rw [hV26]; exact (rs_setL HB1.out k5 (by decide) (Blk.cell k5 0) (fun _ h => by cases h) 10 [.bool true]))
              replace HB6 : Hid (Big V26 (.agg #[.bool bn6, .slice ba6 bl6 bc6]) r2 46) := Lib.hid (by rw [hV26]; exact (big_setL HB6.out (Blk.cell k5 0) (fun _ h => by cases h) 10 [.bool true]))
              replace HB7 : Hid (Big V26 (.agg #[.bool bn7, .slice ba7 bl7 bc7]) r3 46) := Lib.hid (by rw [hV26]; exact (big_setL HB7.out (Blk.cell k5 0) (fun _ h => by cases h) 10 [.bool true]))
              replace HB8 : Hid (Big V26 (.agg #[.bool bn8, .slice ba8 bl8 bc8]) r4 40) := Lib.hid (by rw [hV26]; exact (big_setL HB8.out (Blk.cell k5 0) (fun _ h => by cases h) 10 [.bool true]))
              replace HB14 : Hid (Big V26 (.agg #[.bool bn14, .slice ba14 bl14 bc14]) r14 37) := Lib.hid (by rw [hV26]; exact (big_setL HB14.out (Blk.cell k5 0) (fun _ h => by cases h) 10 [.bool true]))
              replace HB15 : Hid (Big V26 (.agg #[.bool bn15, .slice ba15 bl15 bc15]) r15 37) := Lib.hid (by rw [hV26]; exact (big_setL HB15.out (Blk.cell k5 0) (fun _ h => by cases h) 10 [.bool true]))
              replace HB16 : Hid (Big V26 (.agg #[.bool bn16, .slice ba16 bl16 bc16]) r16 46) := Lib.hid (by rw [hV26]; exact (big_setL HB16.out (Blk.cell k5 0) (fun _ h => by cases h) 10 [.bool true]))
              replace HB17 : Hid (Big V26 (.agg #[.bool bn17, .slice ba17 bl17 bc17]) r17 46) := Lib.hid (by rw [hV26]; exact (big_setL HB17.out (Blk.cell k5 0) (fun _ h => by cases h) 10 [.bool true]))
              replace HB18 : Hid (Big V26 (.agg #[.bool bn18, .slice ba18 bl18 bc18]) r18 40) := Lib.hid (by rw [hV26]; exact (big_setL HB18.out (Blk.cell k5 0) (fun _ h => by cases h) 10 [.bool true]))
              clear k1 k2 k3 k4 k5
              clear hb0
              clear hV26
              have k1 := nk1
              clear nk1
              have k2 := nk2
              clear nk2
              have k3 := nk3
              clear nk3
              have k4 := nk4
              clear nk4
              have k5 := nk5
              clear nk5
              have hb0 := nhb0
              clear nhb0
              obtain ⟨V27, hV27⟩ : ∃ v_ : World, v_ = setL V26 U2.heap.size 4 [.bool (PF1.b ((i + 1).toNat)), .slice (PF1.a ((i + 1).toNat)) (PF1.q ((i + 1).toNat)) (PF1.c ((i + 1).toNat)), .bool (PF1.b2 ((i + 1).toNat)), .slice (PF1.a2 ((i + 1).toNat)) (PF1.q2 ((i + 1).toNat)) (PF1.c2 ((i + 1).toNat))] := ⟨_, rfl⟩
              rw [← hV27] at hs_
              have D86 := Lib.hid k1.lt
              have D87 := Lib.hid k2.lt
              have D88 := Lib.hid k3.lt
              have D89 := Lib.hid k4.lt
              have D90 := Lib.hid k5.lt
              have D91 := Lib.hid hb0.size
              have nk1 : Blk V27 w.heap.size #[.int .i64 ax, .int .i64 ay] 31 := by rw [hV27]; exact (blk_setL k1 (by have := D1.out; omega) 4 [.bool (PF1.b ((i + 1).toNat)), .slice (PF1.a ((i + 1).toNat)) (PF1.q ((i + 1).toNat)) (PF1.c ((i + 1).toNat)), .bool (PF1.b2 ((i + 1).toNat)), .slice (PF1.a2 ((i + 1).toNat)) (PF1.q2 ((i + 1).toNat)) (PF1.c2 ((i + 1).toNat))])
              have nk2 : Blk V27 (w.heap.size + 1) #[.int .i64 bx, .int .i64 b_y] 31 := by rw [hV27]; exact (blk_setL k2 (by have := D2.out; omega) 4 [.bool (PF1.b ((i + 1).toNat)), .slice (PF1.a ((i + 1).toNat)) (PF1.q ((i + 1).toNat)) (PF1.c ((i + 1).toNat)), .bool (PF1.b2 ((i + 1).toNat)), .slice (PF1.a2 ((i + 1).toNat)) (PF1.q2 ((i + 1).toNat)) (PF1.c2 ((i + 1).toNat))])
              have nk3 : Blk V27 (w.heap.size + 1 + 1) #[.int .i64 cx, .int .i64 cy] 31 := by rw [hV27]; exact (blk_setL k3 (by have := D3.out; omega) 4 [.bool (PF1.b ((i + 1).toNat)), .slice (PF1.a ((i + 1).toNat)) (PF1.q ((i + 1).toNat)) (PF1.c ((i + 1).toNat)), .bool (PF1.b2 ((i + 1).toNat)), .slice (PF1.a2 ((i + 1).toNat)) (PF1.q2 ((i + 1).toNat)) (PF1.c2 ((i + 1).toNat))])
              have nk4 : Blk V27 (w.heap.size + 1 + 1 + 1) #[.bool false, .slice none 0 0, .bool false, .slice none 0 0, .bool false, .slice none 0 0, .bool false, .slice none 0 0, .bool false, .bool false, .bool false] 62 := by rw [hV27]; exact (blk_setL k4 (by have := D4.out; omega) 4 [.bool (PF1.b ((i + 1).toNat)), .slice (PF1.a ((i + 1).toNat)) (PF1.q ((i + 1).toNat)) (PF1.c ((i + 1).toNat)), .bool (PF1.b2 ((i + 1).toNat)), .slice (PF1.a2 ((i + 1).toNat)) (PF1.q2 ((i + 1).toNat)) (PF1.c2 ((i + 1).toNat))])
              have nk5 : Blk V27 U2.heap.size #[.bool (PF1.b (i.toNat)), .slice (PF1.a (i.toNat)) (PF1.q (i.toNat)) (PF1.c (i.toNat)), .bool (PF1.b2 (i.toNat)), .slice (PF1.a2 (i.toNat)) (PF1.q2 (i.toNat)) (PF1.c2 (i.toNat)), .bool (PF1.b ((i + 1).toNat)), .slice (PF1.a ((i + 1).toNat)) (PF1.q ((i + 1).toNat)) (PF1.c ((i + 1).toNat)), .bool (PF1.b2 ((i + 1).toNat)), .slice (PF1.a2 ((i + 1).toNat)) (PF1.q2 ((i + 1).toNat)) (PF1.c2 ((i + 1).toNat)), .bool so, .bool false, .bool true] 62 := by rw [hV27]; exact (blk_putL k5 4 [.bool (PF1.b ((i + 1).toNat)), .slice (PF1.a ((i + 1).toNat)) (PF1.q ((i + 1).toNat)) (PF1.c ((i + 1).toNat)), .bool (PF1.b2 ((i + 1).toNat)), .slice (PF1.a2 ((i + 1).toNat)) (PF1.q2 ((i + 1).toNat)) (PF1.c2 ((i + 1).toNat))])
              have nhb0 : Below w.heap.size w V27 := by rw [hV27]; exact (blw_setL hb0 (by have := D5.out; omega) 4 [.bool (PF1.b ((i + 1).toNat)), .slice (PF1.a ((i + 1).toNat)) (PF1.q ((i + 1).toNat)) (PF1.c ((i + 1).toNat)), .bool (PF1.b2 ((i + 1).toNat)), .slice (PF1.a2 ((i + 1).toNat)) (PF1.q2 ((i + 1).toNat)) (PF1.c2 ((i + 1).toNat))])
              replace HB1 : Hid (RS V27 pg1 pc1 pn1 PF1) := Lib.hid (by rw [hV27]; exact (rs_setL HB1.out k5 (by decide) (Blk.cell k5 0) (fun _ h => by cases h) 4 [.bool (PF1.b ((i + 1).toNat)), .slice (PF1.a ((i + 1).toNat)) (PF1.q ((i + 1).toNat)) (PF1.c ((i + 1).toNat)), .bool (PF1.b2 ((i + 1).toNat)), .slice (PF1.a2 ((i + 1).toNat)) (PF1.q2 ((i + 1).toNat)) (PF1.c2 ((i + 1).toNat))]))
              replace HB6 : Hid (Big V27 (.agg #[.bool bn6, .slice ba6 bl6 bc6]) r2 46) := Lib.hid (by rw [hV27]; exact (big_setL HB6.out (Blk.cell k5 0) (fun _ h => by cases h) 4 [.bool (PF1.b ((i + 1).toNat)), .slice (PF1.a ((i + 1).toNat)) (PF1.q ((i + 1).toNat)) (PF1.c ((i + 1).toNat)), .bool (PF1.b2 ((i + 1).toNat)), .slice (PF1.a2 ((i + 1).toNat)) (PF1.q2 ((i + 1).toNat)) (PF1.c2 ((i + 1).toNat))]))
              replace HB7 : Hid (Big V27 (.agg #[.bool bn7, .slice ba7 bl7 bc7]) r3 46) := Lib.hid (by rw [hV27]; exact (big_setL HB7.out (Blk.cell k5 0) (fun _ h => by cases h) 4 [.bool (PF1.b ((i + 1).toNat)), .slice (PF1.a ((i + 1).toNat)) (PF1.q ((i + 1).toNat)) (PF1.c ((i + 1).toNat)), .bool (PF1.b2 ((i + 1).toNat)), .slice (PF1.a2 ((i + 1).toNat)) (PF1.q2 ((i + 1).toNat)) (PF1.c2 ((i + 1).toNat))]))
              replace HB8 : Hid (Big V27 (.agg #[.bool bn8, .slice ba8 bl8 bc8]) r4 40) := Lib.hid (by rw [hV27]; exact (big_setL HB8.out (Blk.cell k5 0) (fun _ h => by cases h) 4 [.bool (PF1.b ((i + 1).toNat)), .slice (PF1.a ((i + 1).toNat)) (PF1.q ((i + 1).toNat)) (PF1.c ((i + 1).toNat)), .bool (PF1.b2 ((i + 1).toNat)), .slice (PF1.a2 ((i + 1).toNat)) (PF1.q2 ((i + 1).toNat)) (PF1.c2 ((i + 1).toNat))]))
              replace HB14 : Hid (Big V27 (.agg #[.bool bn14, .slice ba14 bl14 bc14]) r14 37) := Lib.hid (by rw [hV27]; exact (big_setL HB14.out (Blk.cell k5 0) (fun _ h => by cases h) 4 [.bool (PF1.b ((i + 1).toNat)), .slice (PF1.a ((i + 1).toNat)) (PF1.q ((i + 1).toNat)) (PF1.c ((i + 1).toNat)), .bool (PF1.b2 ((i + 1).toNat)), .slice (PF1.a2 ((i + 1).toNat)) (PF1.q2 ((i + 1).toNat)) (PF1.c2 ((i + 1).toNat))]))
              replace HB15 : Hid (Big V27 (.agg #[.bool bn15, .slice ba15 bl15 bc15]) r15 37) := Lib.hid (by rw [hV27]; exact (big_setL HB15.out (Blk.cell k5 0) (fun _ h => by cases h) 4 [.bool (PF1.b ((i + 1).toNat)), .slice (PF1.a ((i + 1).toNat)) (PF1.q ((i + 1).toNat)) (PF1.c ((i + 1).toNat)), .bool (PF1.b2 ((i + 1).toNat)), .slice (PF1.a2 ((i + 1).toNat)) (PF1.q2 ((i + 1).toNat)) (PF1.c2 ((i + 1).toNat))]))
              replace HB16 : Hid (Big V27 (.agg #[.bool bn16, .slice ba16 bl16 bc16]) r16 46) := Lib.hid (by rw [hV27]; exact (big_setL HB16.out (Blk.cell k5 0) (fun _ h => by cases h) 4 [.bool (PF1.b ((i + 1).toNat)), .slice (PF1.a ((i + 1).toNat)) (PF1.q ((i + 1).toNat)) (PF1.c ((i + 1).toNat)), .bool (PF1.b2 ((i + 1).toNat)), .slice (PF1.a2 ((i + 1).toNat)) (PF1.q2 ((i + 1).toNat)) (PF1.c2 ((i + 1).toNat))]))
              replace HB17 : Hid (Big V27 (.agg #[.bool bn17, .slice ba17 bl17 bc17]) r17 46) := Lib.hid (by rw [hV27]; exact (big_setL HB17.out (Blk.cell k5 0) (fun _ h => by cases h) 4 [.bool (PF1.b ((i + 1).toNat)), .slice (PF1.a ((i + 1).toNat)) (PF1.q ((i + 1).toNat)) (PF1.c ((i + 1).toNat)), .bool (PF1.b2 ((i + 1).toNat)), .slice (PF1.a2 ((i + 1).toNat)) (PF1.q2 ((i + 1).toNat)) (PF1.c2 ((i + 1).toNat))]))
              replace HB18 : Hid (Big V27 (.agg #[.bool bn18, .slice ba18 bl18 bc18]) r18 40) := Lib.hid (by rw [hV27]; exact (big_setL HB18.out (Blk.cell k5 0) (fun _ h => by cases h) 4 [.bool (PF1.b ((i + 1).toNat)), .slice (PF1.a ((i + 1).toNat)) (PF1.q ((i + 1).toNat)) (PF1.c ((i + 1).toNat)), .bool (PF1.b2 ((i + 1).toNat)), .slice (PF1.a2 ((i + 1).toNat)) (PF1.q2 ((i + 1).toNat)) (PF1.c2 ((i + 1).toNat))]))
              clear k1 k2 k3 k4 k5
              clear hb0
              clear hV27
              have k1 := nk1
              clear nk1
              have k2 := nk2
              clear nk2
              have k3 := nk3
              clear nk3
              have k4 := nk4
              clear nk4
              have k5 := nk5
              clear nk5
              have hb0 := nhb0
              clear nhb0
              have hV25 := hs_
              clear hs_
              have D92 := Lib.hid k1.lt
              have D93 := Lib.hid k2.lt
              have D94 := Lib.hid k3.lt
              have D95 := Lib.hid k4.lt
              have D96 := Lib.hid k5.lt
              have D97 := Lib.hid hb0.size
              have nk1 : Blk V25 w.heap.size #[.int .i64 ax, .int .i64 ay] 31 := by rw [hV25]; exact (blk_setL k1 (by have := D1.out; omega) 9 [.bool true])
              have nk2 : Blk V25 (w.heap.size + 1) #[.int .i64 bx, .int .i64 b_y] 31 := by rw [hV25]; exact (blk_setL k2 (by have := D2.out; omega) 9 [.bool true])
              have nk3 : Blk V25 (w.heap.size + 1 + 1) #[.int .i64 cx, .int .i64 cy] 31 := by rw [hV25]; exact (blk_setL k3 (by have := D3.out; omega) 9 [.bool true])
              have nk4 : Blk V25 (w.heap.size + 1 + 1 + 1) #[.bool false, .slice none 0 0, .bool false, .slice none 0 0, .bool false, .slice none 0 0, .bool false, .slice none 0 0, .bool false, .bool false, .bool false] 62 := by rw [hV25]; exact (blk_setL k4 (by have := D4.out; omega) 9 [.bool true])
              have nk5 : Blk V25 U2.heap.size #[.bool (PF1.b (i.toNat)), .slice (PF1.a (i.toNat)) (PF1.q (i.toNat)) (PF1.c (i.toNat)), .bool (PF1.b2 (i.toNat)), .slice (PF1.a2 (i.toNat)) (PF1.q2 (i.toNat)) (PF1.c2 (i.toNat)), .bool (PF1.b ((i + 1).toNat)), .slice (PF1.a ((i + 1).toNat)) (PF1.q ((i + 1).toNat)) (PF1.c ((i + 1).toNat)), .bool (PF1.b2 ((i + 1).toNat)), .slice (PF1.a2 ((i + 1).toNat)) (PF1.q2 ((i + 1).toNat)) (PF1.c2 ((i + 1).toNat)), .bool so, .bool true, .bool true] 62 := by rw [hV25]; exact (blk_putL k5 9 [.bool true])
              have nhb0 : Below w.heap.size w V25 := by rw [hV25]; exact (blw_setL hb0 (by have := D5.out; omega) 9 [.bool true])
              replace HB1 : Hid (RS V25 pg1 pc1 pn1 PF1) := Lib.hid (by rw [hV25]; exact (rs_setL HB1.out k5 (by decide) (Blk.cell k5 0) (fun _ h => by cases h) 9 [.bool true]))
              replace HB6 : Hid (Big V25 (.agg #[.bool bn6, .slice ba6 bl6 bc6]) r2 46) := Lib.hid (by rw [hV25]; exact (big_setL HB6.out (Blk.cell k5 0) (fun _ h => by cases h) 9 [.bool true]))
              replace HB7 : Hid (Big V25 (.agg #[.bool bn7, .slice ba7 bl7 bc7]) r3 46) := Lib.hid (by rw [hV25]; exact (big_setL HB7.out (Blk.cell k5 0) (fun _ h => by cases h) 9 [.bool true]))
              replace HB8 : Hid (Big V25 (.agg #[.bool bn8, .slice ba8 bl8 bc8]) r4 40) := Lib.hid (by rw [hV25]; exact (big_setL HB8.out (Blk.cell k5 0) (fun _ h => by cases h) 9 [.bool true]))
              replace HB14 : Hid (Big V25 (.agg #[.bool bn14, .slice ba14 bl14 bc14]) r14 37) := Lib.hid (by rw [hV25]; exact (big_setL HB14.out (Blk.cell k5 0) (fun _ h => by cases h) 9 [.bool true]))
              replace HB15 : Hid (Big V25 (.agg #[.bool bn15, .slice ba15 bl15 bc15]) r15 37) := Lib.hid (by rw [hV25]; exact (big_setL HB15.out (Blk.cell k5 0) (fun _ h => by cases h) 9 [.bool true]))
              replace HB16 : Hid (Big V25 (.agg #[.bool bn16, .slice ba16 bl16 bc16]) r16 46) := Lib.hid (by rw [hV25]; exact (big_setL HB16.out (Blk.cell k5 0) (fun _ h => by cases h) 9 [.bool true]))
              replace HB17 : Hid (Big V25 (.agg #[.bool bn17, .slice ba17 bl17 bc17]) r17 46) := Lib.hid (by rw [hV25]; exact (big_setL HB17.out (Blk.cell k5 0) (fun _ h => by cases h) 9 [.bool true]))
              replace HB18 : Hid (Big V25 (.agg #[.bool bn18, .slice ba18 bl18 bc18]) r18 40) := Lib.hid (by rw [hV25]; exact (big_setL HB18.out (Blk.cell k5 0) (fun _ h => by cases h) 9 [.bool true]))
              clear k1 k2 k3 k4 k5
              clear hb0
              clear hV25
              have k1 := nk1
              clear nk1
              have k2 := nk2
              clear nk2
              have k3 := nk3
              clear nk3
              have k4 := nk4
              clear nk4
              have k5 := nk5
              clear nk5
              have hb0 := nhb0
              clear nhb0
              have HIn : CuI ax ay bx b_y cx cy n PF1 pn1 (i + 1) ⟨true, (PF1.N (i.toNat)), (PF1.D (i.toNat)), (PF1.N ((i + 1).toNat)), (PF1.D ((i + 1).toNat)), so, true⟩ ∧ pn1 - (i + 1).toNat ≤ ((pn1 - ((i + 1)).toNat) : Nat) := by
                first
                  | (exact ⟨CuI.more HI1.out.1 hz1 hz13 (by have p1 := PC_v Hr2.out Hr3.out Hr4.out Hz5.out; have p2 := PM_v Hr14.out Hr15.out Hr16.out Hr17.out Hr18.out Hz19.out; unfold midF hitF; simp only [p1, p2, cond_true, cond_false]), by have := HI1.out.2; have := of_decide_eq_true hz1; have := HI1.out.1.1; omega⟩)
                  | (exact ⟨CuI.last HI1.out.1 hz1 hz13 (by have p1 := PC_v Hr2.out Hr3.out Hr4.out Hz5.out; unfold hitF; simp only [p1, cond_true, cond_false]), by have := HI1.out.2; have := of_decide_eq_true hz1; have := HI1.out.1.1; omega⟩)
              try rw [show (wrap64 (i + 1)) = (i + 1) from (HI1.out.1.w HM1.out)]
              go_roundg (pn1 - ((i + 1)).toNat)
              case measure =>
                have q_ := of_decide_eq_true hz1
                have q2_ := HI1.out.2
                have q3_ := HI1.out.1.1
                omega
              case rel => exact ⟨(i + 1), (PF1.N (i.toNat)), (PF1.D (i.toNat)), (PF1.N ((i + 1).toNat)), (PF1.D ((i + 1).toNat)), so, true, true, (PF1.b (i.toNat)), (PF1.a (i.toNat)), (PF1.q (i.toNat)), (PF1.c (i.toNat)), (PF1.b2 (i.toNat)), (PF1.a2 (i.toNat)), (PF1.q2 (i.toNat)), (PF1.c2 (i.toNat)), (PF1.b ((i + 1).toNat)), (PF1.a ((i + 1).toNat)), (PF1.q ((i + 1).toNat)), (PF1.c ((i + 1).toNat)), (PF1.b2 ((i + 1).toNat)), (PF1.a2 ((i + 1).toNat)), (PF1.q2 ((i + 1).toNat)), (PF1.c2 ((i + 1).toNat)), rfl, Lib.hid HIn, k1, k2, k3, k4, k5, HB1.out, (RS.num HB1.out _ (ixlt (HI1.out.1.ix hz1))), (RS.den HB1.out _ (ixlt (HI1.out.1.ix hz1))), (RS.num HB1.out _ (ixlt (HI1.out.1.ix1 hz13))), (RS.den HB1.out _ (ixlt (HI1.out.1.ix1 hz13))), hb0⟩
        · have c5_4 : U6.cell? ⟨U2.heap.size, 4, none⟩ = some (.bool nC) := k5.cell 4
          have c5_5 : U6.cell? ⟨U2.heap.size, 5, none⟩ = some (.slice aC lC cC) := k5.cell 5
          have c5_6 : U6.cell? ⟨U2.heap.size, 6, none⟩ = some (.bool nE) := k5.cell 6
          have c5_7 : U6.cell? ⟨U2.heap.size, 7, none⟩ = some (.slice aE lE cE) := k5.cell 7
          have c5_9 : U6.cell? ⟨U2.heap.size, 9, none⟩ = some (.bool su) := k5.cell 9
          have c5_10 : U6.cell? ⟨U2.heap.size, 10, none⟩ = some (.bool true) := k5.cell 10
          have f5_4 := k5.free 4
          have f5_5 := k5.free 5
          have f5_6 := k5.free 6
          have f5_7 := k5.free 7
          have f5_9 := k5.free 9
          have f5_10 := k5.free 10
          have l5 := k5.lt
          have ea0 : (0 : Int) ≤ i := ((HI1.out.1.ix hz1)).1
          have eb0 : (i : Int) < (pn1 : Int) := ((HI1.out.1.ix hz1)).2
          have el0 := RS.lt HB1.out
          have ec0_0 : U6.cell? ⟨pg1, i.toNat * 4, none⟩ = some (.bool (PF1.b (i.toNat))) := RS.c0 HB1.out (ixlt (HI1.out.1.ix hz1))
          have ec0_1 : U6.cell? ⟨pg1, i.toNat * 4 + 1, none⟩ = some (.slice (PF1.a (i.toNat)) (PF1.q (i.toNat)) (PF1.c (i.toNat))) := RS.c1 HB1.out (ixlt (HI1.out.1.ix hz1))
          have ec0_2 : U6.cell? ⟨pg1, i.toNat * 4 + 2, none⟩ = some (.bool (PF1.b2 (i.toNat))) := RS.c2 HB1.out (ixlt (HI1.out.1.ix hz1))
          have ec0_3 : U6.cell? ⟨pg1, i.toNat * 4 + 3, none⟩ = some (.slice (PF1.a2 (i.toNat)) (PF1.q2 (i.toNat)) (PF1.c2 (i.toNat))) := RS.c3 HB1.out (ixlt (HI1.out.1.ix hz1))
          have en0_5 := rs_ne HB1.out k5 (by decide)
          have em0_5 := en0_5.symm
          go_wp2_with fail
          clear c5_4 c5_5 c5_6 c5_7 c5_9 c5_10 f5_4 f5_5 f5_6 f5_7 f5_9 f5_10 l5 ea0 eb0 el0 ec0_0 ec0_1 ec0_2 ec0_3 en0_5 em0_5
          first | refine calls_w ?_ | refine name_world ?_ | refine list_world ?_ | refine post_world ?_
          intro V28 hV28
          clear HB4 HB5
          have hs_ : V28 = (setL (setL (setL U6 U2.heap.size 10 [.bool true]) U2.heap.size 4 [.bool (PF1.b (i.toNat)), .slice (PF1.a (i.toNat)) (PF1.q (i.toNat)) (PF1.c (i.toNat)), .bool (PF1.b2 (i.toNat)), .slice (PF1.a2 (i.toNat)) (PF1.q2 (i.toNat)) (PF1.c2 (i.toNat))]) U2.heap.size 9 [.bool false]) := hV28
          clear hV28
          obtain ⟨V29, hV29⟩ : ∃ v_ : World, v_ = setL U6 U2.heap.size 10 [.bool true] := ⟨_, rfl⟩
          rw [← hV29] at hs_
          have D98 := Lib.hid k1.lt
          have D99 := Lib.hid k2.lt
          have D100 := Lib.hid k3.lt
          have D101 := Lib.hid k4.lt
          have D102 := Lib.hid k5.lt
          have D103 := Lib.hid hb0.size
          have nk1 : Blk V29 w.heap.size #[.int .i64 ax, .int .i64 ay] 31 := by rw [hV29]; exact (blk_setL k1 (by have := D1.out; omega) 10 [.bool true])
          have nk2 : Blk V29 (w.heap.size + 1) #[.int .i64 bx, .int .i64 b_y] 31 := by rw [hV29]; exact (blk_setL k2 (by have := D2.out; omega) 10 [.bool true])
          have nk3 : Blk V29 (w.heap.size + 1 + 1) #[.int .i64 cx, .int .i64 cy] 31 := by rw [hV29]; exact (blk_setL k3 (by have := D3.out; omega) 10 [.bool true])
          have nk4 : Blk V29 (w.heap.size + 1 + 1 + 1) #[.bool false, .slice none 0 0, .bool false, .slice none 0 0, .bool false, .slice none 0 0, .bool false, .slice none 0 0, .bool false, .bool false, .bool false] 62 := by rw [hV29]; exact (blk_setL k4 (by have := D4.out; omega) 10 [.bool true])
          have nk5 : Blk V29 U2.heap.size #[.bool nA, .slice aA lA cA, .bool nB, .slice aB lB cB, .bool nC, .slice aC lC cC, .bool nE, .slice aE lE cE, .bool so, .bool su, .bool true] 62 := by rw [hV29]; exact (blk_putL k5 10 [.bool true])
          have nhb0 : Below w.heap.size w V29 := by rw [hV29]; exact (blw_setL hb0 (by have := D5.out; omega) 10 [.bool true])
          replace HB1 : Hid (RS V29 pg1 pc1 pn1 PF1) := Lib.hid (by rw [hV29]; exact (rs_setL HB1.out k5 (by decide) (Blk.cell k5 0) (fun _ h => by cases h) 10 [.bool true]))
          replace HB2 : Hid (Big V29 (.agg #[.bool nA, .slice aA lA cA]) fN 18) := Lib.hid (by rw [hV29]; exact (big_setL HB2.out (Blk.cell k5 0) (fun _ h => by cases h) 10 [.bool true]))
          replace HB3 : Hid (Big V29 (.agg #[.bool nB, .slice aB lB cB]) fD 18) := Lib.hid (by rw [hV29]; exact (big_setL HB3.out (Blk.cell k5 0) (fun _ h => by cases h) 10 [.bool true]))
          replace HB6 : Hid (Big V29 (.agg #[.bool bn6, .slice ba6 bl6 bc6]) r2 46) := Lib.hid (by rw [hV29]; exact (big_setL HB6.out (Blk.cell k5 0) (fun _ h => by cases h) 10 [.bool true]))
          replace HB7 : Hid (Big V29 (.agg #[.bool bn7, .slice ba7 bl7 bc7]) r3 46) := Lib.hid (by rw [hV29]; exact (big_setL HB7.out (Blk.cell k5 0) (fun _ h => by cases h) 10 [.bool true]))
          replace HB8 : Hid (Big V29 (.agg #[.bool bn8, .slice ba8 bl8 bc8]) r4 40) := Lib.hid (by rw [hV29]; exact (big_setL HB8.out (Blk.cell k5 0) (fun _ h => by cases h) 10 [.bool true]))
          clear k1 k2 k3 k4 k5
          clear hb0
          clear hV29
          have k1 := nk1
          clear nk1
          have k2 := nk2
          clear nk2
          have k3 := nk3
          clear nk3
          have k4 := nk4
          clear nk4
          have k5 := nk5
          clear nk5
          have hb0 := nhb0
          clear nhb0
          obtain ⟨V30, hV30⟩ : ∃ v_ : World, v_ = setL V29 U2.heap.size 4 [.bool (PF1.b (i.toNat)), .slice (PF1.a (i.toNat)) (PF1.q (i.toNat)) (PF1.c (i.toNat)), .bool (PF1.b2 (i.toNat)), .slice (PF1.a2 (i.toNat)) (PF1.q2 (i.toNat)) (PF1.c2 (i.toNat))] := ⟨_, rfl⟩
          rw [← hV30] at hs_
          have D104 := Lib.hid k1.lt
          have D105 := Lib.hid k2.lt
          have D106 := Lib.hid k3.lt
          have D107 := Lib.hid k4.lt
          have D108 := Lib.hid k5.lt
          have D109 := Lib.hid hb0.size
          have nk1 : Blk V30 w.heap.size #[.int .i64 ax, .int .i64 ay] 31 := by rw [hV30]; exact (blk_setL k1 (by have := D1.out; omega) 4 [.bool (PF1.b (i.toNat)), .slice (PF1.a (i.toNat)) (PF1.q (i.toNat)) (PF1.c (i.toNat)), .bool (PF1.b2 (i.toNat)), .slice (PF1.a2 (i.toNat)) (PF1.q2 (i.toNat)) (PF1.c2 (i.toNat))])
          have nk2 : Blk V30 (w.heap.size + 1) #[.int .i64 bx, .int .i64 b_y] 31 := by rw [hV30]; exact (blk_setL k2 (by have := D2.out; omega) 4 [.bool (PF1.b (i.toNat)), .slice (PF1.a (i.toNat)) (PF1.q (i.toNat)) (PF1.c (i.toNat)), .bool (PF1.b2 (i.toNat)), .slice (PF1.a2 (i.toNat)) (PF1.q2 (i.toNat)) (PF1.c2 (i.toNat))])
          have nk3 : Blk V30 (w.heap.size + 1 + 1) #[.int .i64 cx, .int .i64 cy] 31 := by rw [hV30]; exact (blk_setL k3 (by have := D3.out; omega) 4 [.bool (PF1.b (i.toNat)), .slice (PF1.a (i.toNat)) (PF1.q (i.toNat)) (PF1.c (i.toNat)), .bool (PF1.b2 (i.toNat)), .slice (PF1.a2 (i.toNat)) (PF1.q2 (i.toNat)) (PF1.c2 (i.toNat))])
          have nk4 : Blk V30 (w.heap.size + 1 + 1 + 1) #[.bool false, .slice none 0 0, .bool false, .slice none 0 0, .bool false, .slice none 0 0, .bool false, .slice none 0 0, .bool false, .bool false, .bool false] 62 := by rw [hV30]; exact (blk_setL k4 (by have := D4.out; omega) 4 [.bool (PF1.b (i.toNat)), .slice (PF1.a (i.toNat)) (PF1.q (i.toNat)) (PF1.c (i.toNat)), .bool (PF1.b2 (i.toNat)), .slice (PF1.a2 (i.toNat)) (PF1.q2 (i.toNat)) (PF1.c2 (i.toNat))])
          have nk5 : Blk V30 U2.heap.size #[.bool nA, .slice aA lA cA, .bool nB, .slice aB lB cB, .bool (PF1.b (i.toNat)), .slice (PF1.a (i.toNat)) (PF1.q (i.toNat)) (PF1.c (i.toNat)), .bool (PF1.b2 (i.toNat)), .slice (PF1.a2 (i.toNat)) (PF1.q2 (i.toNat)) (PF1.c2 (i.toNat)), .bool so, .bool su, .bool true] 62 := by rw [hV30]; exact (blk_putL k5 4 [.bool (PF1.b (i.toNat)), .slice (PF1.a (i.toNat)) (PF1.q (i.toNat)) (PF1.c (i.toNat)), .bool (PF1.b2 (i.toNat)), .slice (PF1.a2 (i.toNat)) (PF1.q2 (i.toNat)) (PF1.c2 (i.toNat))])
          have nhb0 : Below w.heap.size w V30 := by rw [hV30]; exact (blw_setL hb0 (by have := D5.out; omega) 4 [.bool (PF1.b (i.toNat)), .slice (PF1.a (i.toNat)) (PF1.q (i.toNat)) (PF1.c (i.toNat)), .bool (PF1.b2 (i.toNat)), .slice (PF1.a2 (i.toNat)) (PF1.q2 (i.toNat)) (PF1.c2 (i.toNat))])
          replace HB1 : Hid (RS V30 pg1 pc1 pn1 PF1) := Lib.hid (by rw [hV30]; exact (rs_setL HB1.out k5 (by decide) (Blk.cell k5 0) (fun _ h => by cases h) 4 [.bool (PF1.b (i.toNat)), .slice (PF1.a (i.toNat)) (PF1.q (i.toNat)) (PF1.c (i.toNat)), .bool (PF1.b2 (i.toNat)), .slice (PF1.a2 (i.toNat)) (PF1.q2 (i.toNat)) (PF1.c2 (i.toNat))]))
          replace HB2 : Hid (Big V30 (.agg #[.bool nA, .slice aA lA cA]) fN 18) := Lib.hid (by rw [hV30]; exact (big_setL HB2.out (Blk.cell k5 0) (fun _ h => by cases h) 4 [.bool (PF1.b (i.toNat)), .slice (PF1.a (i.toNat)) (PF1.q (i.toNat)) (PF1.c (i.toNat)), .bool (PF1.b2 (i.toNat)), .slice (PF1.a2 (i.toNat)) (PF1.q2 (i.toNat)) (PF1.c2 (i.toNat))]))
          replace HB3 : Hid (Big V30 (.agg #[.bool nB, .slice aB lB cB]) fD 18) := Lib.hid (by rw [hV30]; exact (big_setL HB3.out (Blk.cell k5 0) (fun _ h => by cases h) 4 [.bool (PF1.b (i.toNat)), .slice (PF1.a (i.toNat)) (PF1.q (i.toNat)) (PF1.c (i.toNat)), .bool (PF1.b2 (i.toNat)), .slice (PF1.a2 (i.toNat)) (PF1.q2 (i.toNat)) (PF1.c2 (i.toNat))]))
          replace HB6 : Hid (Big V30 (.agg #[.bool bn6, .slice ba6 bl6 bc6]) r2 46) := Lib.hid (by rw [hV30]; exact (big_setL HB6.out (Blk.cell k5 0) (fun _ h => by cases h) 4 [.bool (PF1.b (i.toNat)), .slice (PF1.a (i.toNat)) (PF1.q (i.toNat)) (PF1.c (i.toNat)), .bool (PF1.b2 (i.toNat)), .slice (PF1.a2 (i.toNat)) (PF1.q2 (i.toNat)) (PF1.c2 (i.toNat))]))
          replace HB7 : Hid (Big V30 (.agg #[.bool bn7, .slice ba7 bl7 bc7]) r3 46) := Lib.hid (by rw [hV30]; exact (big_setL HB7.out (Blk.cell k5 0) (fun _ h => by cases h) 4 [.bool (PF1.b (i.toNat)), .slice (PF1.a (i.toNat)) (PF1.q (i.toNat)) (PF1.c (i.toNat)), .bool (PF1.b2 (i.toNat)), .slice (PF1.a2 (i.toNat)) (PF1.q2 (i.toNat)) (PF1.c2 (i.toNat))]))
          replace HB8 : Hid (Big V30 (.agg #[.bool bn8, .slice ba8 bl8 bc8]) r4 40) := Lib.hid (by rw [hV30]; exact (big_setL HB8.out (Blk.cell k5 0) (fun _ h => by cases h) 4 [.bool (PF1.b (i.toNat)), .slice (PF1.a (i.toNat)) (PF1.q (i.toNat)) (PF1.c (i.toNat)), .bool (PF1.b2 (i.toNat)), .slice (PF1.a2 (i.toNat)) (PF1.q2 (i.toNat)) (PF1.c2 (i.toNat))]))
          clear k1 k2 k3 k4 k5
          clear hb0
          clear hV30
          have k1 := nk1
          clear nk1
          have k2 := nk2
          clear nk2
          have k3 := nk3
          clear nk3
          have k4 := nk4
          clear nk4
          have k5 := nk5
          clear nk5
          have hb0 := nhb0
          clear nhb0
          have hV28 := hs_
          clear hs_
          have D110 := Lib.hid k1.lt
          have D111 := Lib.hid k2.lt
          have D112 := Lib.hid k3.lt
          have D113 := Lib.hid k4.lt
          have D114 := Lib.hid k5.lt
          have D115 := Lib.hid hb0.size
          have nk1 : Blk V28 w.heap.size #[.int .i64 ax, .int .i64 ay] 31 := by rw [hV28]; exact (blk_setL k1 (by have := D1.out; omega) 9 [.bool false])
          have nk2 : Blk V28 (w.heap.size + 1) #[.int .i64 bx, .int .i64 b_y] 31 := by rw [hV28]; exact (blk_setL k2 (by have := D2.out; omega) 9 [.bool false])
          have nk3 : Blk V28 (w.heap.size + 1 + 1) #[.int .i64 cx, .int .i64 cy] 31 := by rw [hV28]; exact (blk_setL k3 (by have := D3.out; omega) 9 [.bool false])
          have nk4 : Blk V28 (w.heap.size + 1 + 1 + 1) #[.bool false, .slice none 0 0, .bool false, .slice none 0 0, .bool false, .slice none 0 0, .bool false, .slice none 0 0, .bool false, .bool false, .bool false] 62 := by rw [hV28]; exact (blk_setL k4 (by have := D4.out; omega) 9 [.bool false])
          have nk5 : Blk V28 U2.heap.size #[.bool nA, .slice aA lA cA, .bool nB, .slice aB lB cB, .bool (PF1.b (i.toNat)), .slice (PF1.a (i.toNat)) (PF1.q (i.toNat)) (PF1.c (i.toNat)), .bool (PF1.b2 (i.toNat)), .slice (PF1.a2 (i.toNat)) (PF1.q2 (i.toNat)) (PF1.c2 (i.toNat)), .bool so, .bool false, .bool true] 62 := by rw [hV28]; exact (blk_putL k5 9 [.bool false])
          have nhb0 : Below w.heap.size w V28 := by rw [hV28]; exact (blw_setL hb0 (by have := D5.out; omega) 9 [.bool false])
          replace HB1 : Hid (RS V28 pg1 pc1 pn1 PF1) := Lib.hid (by rw [hV28]; exact (rs_setL HB1.out k5 (by decide) (Blk.cell k5 0) (fun _ h => by cases h) 9 [.bool false]))
          replace HB2 : Hid (Big V28 (.agg #[.bool nA, .slice aA lA cA]) fN 18) := Lib.hid (by rw [hV28]; exact (big_setL HB2.out (Blk.cell k5 0) (fun _ h => by cases h) 9 [.bool false]))
          replace HB3 : Hid (Big V28 (.agg #[.bool nB, .slice aB lB cB]) fD 18) := Lib.hid (by rw [hV28]; exact (big_setL HB3.out (Blk.cell k5 0) (fun _ h => by cases h) 9 [.bool false]))
          replace HB6 : Hid (Big V28 (.agg #[.bool bn6, .slice ba6 bl6 bc6]) r2 46) := Lib.hid (by rw [hV28]; exact (big_setL HB6.out (Blk.cell k5 0) (fun _ h => by cases h) 9 [.bool false]))
          replace HB7 : Hid (Big V28 (.agg #[.bool bn7, .slice ba7 bl7 bc7]) r3 46) := Lib.hid (by rw [hV28]; exact (big_setL HB7.out (Blk.cell k5 0) (fun _ h => by cases h) 9 [.bool false]))
          replace HB8 : Hid (Big V28 (.agg #[.bool bn8, .slice ba8 bl8 bc8]) r4 40) := Lib.hid (by rw [hV28]; exact (big_setL HB8.out (Blk.cell k5 0) (fun _ h => by cases h) 9 [.bool false]))
          clear k1 k2 k3 k4 k5
          clear hb0
          clear hV28
          have k1 := nk1
          clear nk1
          have k2 := nk2
          clear nk2
          have k3 := nk3
          clear nk3
          have k4 := nk4
          clear nk4
          have k5 := nk5
          clear nk5
          have hb0 := nhb0
          clear nhb0
          obtain ⟨z20, hz20⟩ : ∃ o_o : Bool, decide ((i + 1) < (pn1 : Int)) = o_o := ⟨_, rfl⟩
          cases z20
          · have xw0 : (wrap64 (i + 1)) = (i + 1) := (HI1.out.1.w HM1.out)
            have Kk1 := Lib.hid k1
            clear k1
            have Kk2 := Lib.hid k2
            clear k2
            have Kk3 := Lib.hid k3
            clear k3
            have Kk4 := Lib.hid k4
            clear k4
            have Kk5 := Lib.hid k5
            clear k5
            refine wp_region_up V28.heap.size 21 [(true, 0), (true, 1), (true, 2), (false, 3), (true, 4), (true, 5), (true, 6), (true, 7), (true, 8), (true, 9), (true, 10), (true, 11), (true, 12), (true, 13), (true, 14), (true, 15), (true, 16), (true, 19), (true, 20), (false, 17), (false, 18)] (by kernel_rfl) (by kernel_rfl) (fun _ _ d _ _ h => by cases d <;> exact h) ?_
            have hb : Below V28.heap.size V28 V28.drew := (Below.refl _ _).drew
            iterate 3
              refine wpS_takeL rfl rfl ?_
              go_big_quiet_step (rfl)
              refine wpQuiet_nil ?_
            refine wpS_doL rfl ?_
            intro K hK
            go_wp2_with (fail)
            try replace hb := hb.trans (hn.mono hb.size)
            refine hK.out _ _ (up_iff.2 hb) ?_
            clear hK K
            try clear hn
            iterate 15
              refine wpS_takeL rfl rfl ?_
              go_big_quiet_step (rfl)
              refine wpQuiet_nil ?_
            refine wpS_doL rfl ?_
            intro K hK
            go_wp2_with (fail)
            try replace hb := hb.trans (hn.mono hb.size)
            refine hK.out _ _ (up_iff.2 hb) ?_
            clear hK K
            try clear hn
            refine wpS_doL rfl ?_
            intro K hK
            go_wp2_with (fail)
            try replace hb := hb.trans (hn.mono hb.size)
            refine hK.out _ _ (up_iff.2 hb) ?_
            clear hK K
            try clear hn
            refine wpS_nil ?_
            simp only [List.drop_succ_cons, List.drop_zero]
            first | refine calls_w ?_ | refine name_world ?_ | refine list_world ?_ | refine post_world ?_
            intro U31 hU31
            first | (subst hU31; have u_ := U31; clear u_) | (rw [← hU31] at hb; clear hU31)
            clear xw0
            have k1 := Kk1.out.of hb
            clear Kk1
            have k2 := Kk2.out.of hb
            clear Kk2
            have k3 := Kk3.out.of hb
            clear Kk3
            have k4 := Kk4.out.of hb
            clear Kk4
            have k5 := Kk5.out.of hb
            clear Kk5
            replace HB1 := Lib.hid (HB1.out.of hb)
            replace HB2 := Lib.hid (HB2.out.of hb)
            replace HB3 := Lib.hid (HB3.out.of hb)
            replace HB6 := Lib.hid (HB6.out.of hb)
            replace HB7 := Lib.hid (HB7.out.of hb)
            replace HB8 := Lib.hid (HB8.out.of hb)
            replace hb0 := hb0.trans (hb.mono hb0.size)
            clear hb
            have xw0 : (wrap64 (i + 1)) = (i + 1) := (HI1.out.1.w HM1.out)
            go_wp2_with fail
            clear xw0
            have HIn : CuI ax ay bx b_y cx cy n PF1 pn1 (i + 1) ⟨true, fN, fD, (PF1.N (i.toNat)), (PF1.D (i.toNat)), so, false⟩ ∧ pn1 - (i + 1).toNat ≤ ((pn1 - ((i + 1)).toNat) : Nat) := by
              exact ⟨CuI.last HI1.out.1 hz1 hz20 (by have p1 := PC_v Hr2.out Hr3.out Hr4.out Hz5.out; unfold hitF; simp only [p1, cond_true, cond_false]), by have := HI1.out.2; have := of_decide_eq_true hz1; have := HI1.out.1.1; omega⟩
            try rw [show (wrap64 (i + 1)) = (i + 1) from (HI1.out.1.w HM1.out)]
            go_roundg (pn1 - ((i + 1)).toNat)
            case measure =>
              have q_ := of_decide_eq_true hz1
              have q2_ := HI1.out.2
              have q3_ := HI1.out.1.1
              omega
            case rel => exact ⟨(i + 1), fN, fD, (PF1.N (i.toNat)), (PF1.D (i.toNat)), so, false, true, nA, aA, lA, cA, nB, aB, lB, cB, (PF1.b (i.toNat)), (PF1.a (i.toNat)), (PF1.q (i.toNat)), (PF1.c (i.toNat)), (PF1.b2 (i.toNat)), (PF1.a2 (i.toNat)), (PF1.q2 (i.toNat)), (PF1.c2 (i.toNat)), rfl, Lib.hid HIn, k1, k2, k3, k4, k5, HB1.out, HB2.out, HB3.out, (RS.num HB1.out _ (ixlt (HI1.out.1.ix hz1))), (RS.den HB1.out _ (ixlt (HI1.out.1.ix hz1))), hb0⟩
          · obtain ⟨r21, hr21⟩ : ∃ o_o : Int, mdN (PF1.N (i.toNat)) (PF1.D (i.toNat)) (PF1.N ((i + 1).toNat)) (PF1.D ((i + 1).toNat)) = o_o := ⟨_, rfl⟩
            have Hr21 := Lib.hid hr21
            clear hr21
            obtain ⟨r22, hr22⟩ : ∃ o_o : Int, mdD (PF1.N (i.toNat)) (PF1.D (i.toNat)) (PF1.N ((i + 1).toNat)) (PF1.D ((i + 1).toNat)) = o_o := ⟨_, rfl⟩
            have Hr22 := Lib.hid hr22
            clear hr22
            obtain ⟨r23, hr23⟩ : ∃ o_o : Int, a15X ax ay bx b_y r21 r22 = o_o := ⟨_, rfl⟩
            have Hr23 := Lib.hid hr23
            clear hr23
            obtain ⟨r24, hr24⟩ : ∃ o_o : Int, a15Y ax ay bx b_y r21 r22 = o_o := ⟨_, rfl⟩
            have Hr24 := Lib.hid hr24
            clear hr24
            obtain ⟨r25, hr25⟩ : ∃ o_o : Int, a15W ax ay bx b_y r21 r22 = o_o := ⟨_, rfl⟩
            have Hr25 := Lib.hid hr25
            clear hr25
            have c1_0 : V28.cell? ⟨w.heap.size, 0, none⟩ = some (.int .i64 ax) := k1.cell 0
            have c1_1 : V28.cell? ⟨w.heap.size, 1, none⟩ = some (.int .i64 ay) := k1.cell 1
            have l1 := k1.lt
            have c2_0 : V28.cell? ⟨(w.heap.size + 1), 0, none⟩ = some (.int .i64 bx) := k2.cell 0
            have c2_1 : V28.cell? ⟨(w.heap.size + 1), 1, none⟩ = some (.int .i64 b_y) := k2.cell 1
            have l2 := k2.lt
            have c3_0 : V28.cell? ⟨(w.heap.size + 1 + 1), 0, none⟩ = some (.int .i64 cx) := k3.cell 0
            have c3_1 : V28.cell? ⟨(w.heap.size + 1 + 1), 1, none⟩ = some (.int .i64 cy) := k3.cell 1
            have l3 := k3.lt
            have xw0 : (wrap64 (i + 1)) = (i + 1) := (HI1.out.1.w HM1.out)
            have ea0 : (0 : Int) ≤ i := ((HI1.out.1.ix hz1)).1
            have eb0 : (i : Int) < (pn1 : Int) := ((HI1.out.1.ix hz1)).2
            have el0 := RS.lt HB1.out
            have ec0_0 : V28.cell? ⟨pg1, i.toNat * 4, none⟩ = some (.bool (PF1.b (i.toNat))) := RS.c0 HB1.out (ixlt (HI1.out.1.ix hz1))
            have ec0_1 : V28.cell? ⟨pg1, i.toNat * 4 + 1, none⟩ = some (.slice (PF1.a (i.toNat)) (PF1.q (i.toNat)) (PF1.c (i.toNat))) := RS.c1 HB1.out (ixlt (HI1.out.1.ix hz1))
            have ec0_2 : V28.cell? ⟨pg1, i.toNat * 4 + 2, none⟩ = some (.bool (PF1.b2 (i.toNat))) := RS.c2 HB1.out (ixlt (HI1.out.1.ix hz1))
            have ec0_3 : V28.cell? ⟨pg1, i.toNat * 4 + 3, none⟩ = some (.slice (PF1.a2 (i.toNat)) (PF1.q2 (i.toNat)) (PF1.c2 (i.toNat))) := RS.c3 HB1.out (ixlt (HI1.out.1.ix hz1))
            have ea1 : (0 : Int) ≤ (i + 1) := ((HI1.out.1.ix1 hz20)).1
            have eb1 : ((i + 1) : Int) < (pn1 : Int) := ((HI1.out.1.ix1 hz20)).2
            have el1 := RS.lt HB1.out
            have ec1_0 : V28.cell? ⟨pg1, (i + 1).toNat * 4, none⟩ = some (.bool (PF1.b ((i + 1).toNat))) := RS.c0 HB1.out (ixlt (HI1.out.1.ix1 hz20))
            have ec1_1 : V28.cell? ⟨pg1, (i + 1).toNat * 4 + 1, none⟩ = some (.slice (PF1.a ((i + 1).toNat)) (PF1.q ((i + 1).toNat)) (PF1.c ((i + 1).toNat))) := RS.c1 HB1.out (ixlt (HI1.out.1.ix1 hz20))
            have ec1_2 : V28.cell? ⟨pg1, (i + 1).toNat * 4 + 2, none⟩ = some (.bool (PF1.b2 ((i + 1).toNat))) := RS.c2 HB1.out (ixlt (HI1.out.1.ix1 hz20))
            have ec1_3 : V28.cell? ⟨pg1, (i + 1).toNat * 4 + 3, none⟩ = some (.slice (PF1.a2 ((i + 1).toNat)) (PF1.q2 ((i + 1).toNat)) (PF1.c2 ((i + 1).toNat))) := RS.c3 HB1.out (ixlt (HI1.out.1.ix1 hz20))
            have Kk1 := Lib.hid k1
            clear k1
            have Kk2 := Lib.hid k2
            clear k2
            have Kk3 := Lib.hid k3
            clear k3
            have Kk4 := Lib.hid k4
            clear k4
            have Kk5 := Lib.hid k5
            clear k5
            refine wp_region_up V28.heap.size 21 [(true, 0), (true, 1), (true, 2), (false, 3), (true, 4), (true, 5), (true, 6), (true, 7), (true, 8), (true, 9), (true, 10), (true, 11), (true, 12), (true, 13), (true, 14), (true, 15), (true, 16), (true, 19), (true, 20), (false, 17), (false, 18)] (by kernel_rfl) (by kernel_rfl) (fun _ _ d _ _ h => by cases d <;> exact h) ?_
            have hb : Below V28.heap.size V28 V28.drew := (Below.refl _ _).drew
            iterate 3
              refine wpS_takeL rfl rfl ?_
              go_big_quiet_step (rfl)
              refine wpQuiet_nil ?_
            refine wpS_doL rfl ?_
            intro K hK
            go_wp2_with ((first | (go_at_call 97; (with_reducible refine (Mid15_is (PF1.N (i.toNat)) (PF1.D (i.toNat)) (PF1.N ((i + 1).toNat)) (PF1.D ((i + 1).toNat)) r21 r22 Hr21.out Hr22.out  (PF1.b (i.toNat)) (PF1.a (i.toNat)) (PF1.q (i.toNat)) (PF1.c (i.toNat)) (PF1.b2 (i.toNat)) (PF1.a2 (i.toNat)) (PF1.q2 (i.toNat)) (PF1.c2 (i.toNat)) (PF1.b ((i + 1).toNat)) (PF1.a ((i + 1).toNat)) (PF1.q ((i + 1).toNat)) (PF1.c ((i + 1).toNat)) (PF1.b2 ((i + 1).toNat)) (PF1.a2 ((i + 1).toNat)) (PF1.q2 ((i + 1).toNat)) (PF1.c2 ((i + 1).toNat)) _ (RS.num (HB1.out.of hb) _ (ixlt (HI1.out.1.ix hz1))) (RS.den (HB1.out.of hb) _ (ixlt (HI1.out.1.ix hz1))) (RS.num (HB1.out.of hb) _ (ixlt (HI1.out.1.ix1 hz20))) (RS.den (HB1.out.of hb) _ (ixlt (HI1.out.1.ix1 hz20)))).mono ?_); rintro e w2 ⟨bn19, ba19, bl19, bc19, bn20, ba20, bl20, bc20, rfl, hbm19, hbm20, hn⟩; have HB19 := Lib.hid hbm19; have HB20 := Lib.hid hbm20; clear hbm19 hbm20) | (go_at_call 96; (with_reducible refine (At15_is ax ay bx b_y r21 r22 r23 r24 r25 Hr23.out Hr24.out Hr25.out _iax _iay _ibx _ib_y bn19 ba19 bl19 bc19 bn20 ba20 bl20 bc20 _ (HB19.out.mono (by decide)) (HB20.out.mono (by decide))).mono ?_); rintro e w2 ⟨bn21, ba21, bl21, bc21, bn22, ba22, bl22, bc22, bn23, ba23, bl23, bc23, rfl, hbm21, hbm22, hbm23, hn⟩; replace HB19 := Lib.hid (HB19.out.of hn); replace HB20 := Lib.hid (HB20.out.of hn); have HB21 := Lib.hid hbm21; have HB22 := Lib.hid hbm22; have HB23 := Lib.hid hbm23; clear hbm21 hbm22 hbm23)))
            try replace hb := hb.trans (hn.mono hb.size)
            refine hK.out _ _ (up_iff.2 hb) ?_
            clear hK K
            try clear hn
            iterate 15
              refine wpS_takeL rfl rfl ?_
              go_big_quiet_step (rfl)
              refine wpQuiet_nil ?_
            refine wpS_doL rfl ?_
            intro K hK
            go_wp2_with ((go_at_call 97; (with_reducible refine (Mid15_is (PF1.N (i.toNat)) (PF1.D (i.toNat)) (PF1.N ((i + 1).toNat)) (PF1.D ((i + 1).toNat)) r21 r22 Hr21.out Hr22.out  (PF1.b (i.toNat)) (PF1.a (i.toNat)) (PF1.q (i.toNat)) (PF1.c (i.toNat)) (PF1.b2 (i.toNat)) (PF1.a2 (i.toNat)) (PF1.q2 (i.toNat)) (PF1.c2 (i.toNat)) (PF1.b ((i + 1).toNat)) (PF1.a ((i + 1).toNat)) (PF1.q ((i + 1).toNat)) (PF1.c ((i + 1).toNat)) (PF1.b2 ((i + 1).toNat)) (PF1.a2 ((i + 1).toNat)) (PF1.q2 ((i + 1).toNat)) (PF1.c2 ((i + 1).toNat)) _ (RS.num (HB1.out.of hb) _ (ixlt (HI1.out.1.ix hz1))) (RS.den (HB1.out.of hb) _ (ixlt (HI1.out.1.ix hz1))) (RS.num (HB1.out.of hb) _ (ixlt (HI1.out.1.ix1 hz20))) (RS.den (HB1.out.of hb) _ (ixlt (HI1.out.1.ix1 hz20)))).mono ?_); rintro e w2 ⟨bn19, ba19, bl19, bc19, bn20, ba20, bl20, bc20, rfl, hbm19, hbm20, hn⟩; have HB19 := Lib.hid hbm19; have HB20 := Lib.hid hbm20; clear hbm19 hbm20))
            try replace hb := hb.trans (hn.mono hb.size)
            refine hK.out _ _ (up_iff.2 hb) ?_
            clear hK K
            try clear hn
            refine wpS_doL rfl ?_
            intro K hK
            go_wp2_with ((go_at_call 96; (with_reducible refine (At15_is ax ay bx b_y r21 r22 r23 r24 r25 Hr23.out Hr24.out Hr25.out _iax _iay _ibx _ib_y bn19 ba19 bl19 bc19 bn20 ba20 bl20 bc20 _ (HB19.out.mono (by decide)) (HB20.out.mono (by decide))).mono ?_); rintro e w2 ⟨bn21, ba21, bl21, bc21, bn22, ba22, bl22, bc22, bn23, ba23, bl23, bc23, rfl, hbm21, hbm22, hbm23, hn⟩; replace HB19 := Lib.hid (HB19.out.of hn); replace HB20 := Lib.hid (HB20.out.of hn); have HB21 := Lib.hid hbm21; have HB22 := Lib.hid hbm22; have HB23 := Lib.hid hbm23; clear hbm21 hbm22 hbm23))
            try replace hb := hb.trans (hn.mono hb.size)
            refine hK.out _ _ (up_iff.2 hb) ?_
            clear hK K
            try clear hn
            refine wpS_nil ?_
            simp only [List.drop_succ_cons, List.drop_zero]
            first | refine calls_w ?_ | refine name_world ?_ | refine list_world ?_ | refine post_world ?_
            intro U32 hU32
            first | (subst hU32; have u_ := U32; clear u_) | (rw [← hU32] at hb; clear hU32)
            clear c1_0 c1_1 l1 c2_0 c2_1 l2 c3_0 c3_1 l3 xw0 ea0 eb0 el0 ec0_0 ec0_1 ec0_2 ec0_3 ea1 eb1 el1 ec1_0 ec1_1 ec1_2 ec1_3
            have k1 := Kk1.out.of hb
            clear Kk1
            have k2 := Kk2.out.of hb
            clear Kk2
            have k3 := Kk3.out.of hb
            clear Kk3
            have k4 := Kk4.out.of hb
            clear Kk4
            have k5 := Kk5.out.of hb
            clear Kk5
            replace HB1 := Lib.hid (HB1.out.of hb)
            replace HB2 := Lib.hid (HB2.out.of hb)
            replace HB3 := Lib.hid (HB3.out.of hb)
            replace HB6 := Lib.hid (HB6.out.of hb)
            replace HB7 := Lib.hid (HB7.out.of hb)
            replace HB8 := Lib.hid (HB8.out.of hb)
            replace hb0 := hb0.trans (hb.mono hb0.size)
            clear hb
            go_wp2_with fail
            obtain ⟨z26, hz26⟩ : ∃ o_o : Bool, rin15L r23 r24 r25 cx cy n = o_o := ⟨_, rfl⟩
            have Hz26 := Lib.hid hz26
            clear hz26
            refine (rInL_is r23 r24 r25 cx cy n z26 Hz26.out _icx _icy _in bn21 ba21 bl21 bc21 bn22 ba22 bl22 bc22 bn23 ba23 bl23 bc23 _ (HB21.out.mono (by decide)) (HB22.out.mono (by decide)) (HB23.out.mono (by decide))).mono ?_
            rintro e U33 ⟨rfl, hn⟩
            replace k1 := k1.of hn
            replace k2 := k2.of hn
            replace k3 := k3.of hn
            replace k4 := k4.of hn
            replace k5 := k5.of hn
            replace HB1 := Lib.hid (HB1.out.of hn)
            replace HB2 := Lib.hid (HB2.out.of hn)
            replace HB3 := Lib.hid (HB3.out.of hn)
            replace HB6 := Lib.hid (HB6.out.of hn)
            replace HB7 := Lib.hid (HB7.out.of hn)
            replace HB8 := Lib.hid (HB8.out.of hn)
            replace HB19 := Lib.hid (HB19.out.of hn)
            replace HB20 := Lib.hid (HB20.out.of hn)
            replace HB21 := Lib.hid (HB21.out.of hn)
            replace HB22 := Lib.hid (HB22.out.of hn)
            replace HB23 := Lib.hid (HB23.out.of hn)
            replace hb0 := hb0.trans (hn.mono hb0.size)
            clear hn
            cases z26
            · have xw0 : (wrap64 (i + 1)) = (i + 1) := (HI1.out.1.w HM1.out)
              go_wp2_with fail
              clear xw0
              have HIn : CuI ax ay bx b_y cx cy n PF1 pn1 (i + 1) ⟨true, fN, fD, (PF1.N (i.toNat)), (PF1.D (i.toNat)), so, false⟩ ∧ pn1 - (i + 1).toNat ≤ ((pn1 - ((i + 1)).toNat) : Nat) := by
                first
                  | (exact ⟨CuI.more HI1.out.1 hz1 hz20 (by have p1 := PC_v Hr2.out Hr3.out Hr4.out Hz5.out; have p2 := PM_v Hr21.out Hr22.out Hr23.out Hr24.out Hr25.out Hz26.out; unfold midF hitF; simp only [p1, p2, cond_true, cond_false]), by have := HI1.out.2; have := of_decide_eq_true hz1; have := HI1.out.1.1; omega⟩)
                  | (exact ⟨CuI.last HI1.out.1 hz1 hz20 (by have p1 := PC_v Hr2.out Hr3.out Hr4.out Hz5.out; unfold hitF; simp only [p1, cond_true, cond_false]), by have := HI1.out.2; have := of_decide_eq_true hz1; have := HI1.out.1.1; omega⟩)
              try rw [show (wrap64 (i + 1)) = (i + 1) from (HI1.out.1.w HM1.out)]
              go_roundg (pn1 - ((i + 1)).toNat)
              case measure =>
                have q_ := of_decide_eq_true hz1
                have q2_ := HI1.out.2
                have q3_ := HI1.out.1.1
                omega
              case rel => exact ⟨(i + 1), fN, fD, (PF1.N (i.toNat)), (PF1.D (i.toNat)), so, false, true, nA, aA, lA, cA, nB, aB, lB, cB, (PF1.b (i.toNat)), (PF1.a (i.toNat)), (PF1.q (i.toNat)), (PF1.c (i.toNat)), (PF1.b2 (i.toNat)), (PF1.a2 (i.toNat)), (PF1.q2 (i.toNat)), (PF1.c2 (i.toNat)), rfl, Lib.hid HIn, k1, k2, k3, k4, k5, HB1.out, HB2.out, HB3.out, (RS.num HB1.out _ (ixlt (HI1.out.1.ix hz1))), (RS.den HB1.out _ (ixlt (HI1.out.1.ix hz1))), hb0⟩
            · have c5_4 : U33.cell? ⟨U2.heap.size, 4, none⟩ = some (.bool (PF1.b (i.toNat))) := k5.cell 4
              have c5_5 : U33.cell? ⟨U2.heap.size, 5, none⟩ = some (.slice (PF1.a (i.toNat)) (PF1.q (i.toNat)) (PF1.c (i.toNat))) := k5.cell 5
              have c5_6 : U33.cell? ⟨U2.heap.size, 6, none⟩ = some (.bool (PF1.b2 (i.toNat))) := k5.cell 6
              have c5_7 : U33.cell? ⟨U2.heap.size, 7, none⟩ = some (.slice (PF1.a2 (i.toNat)) (PF1.q2 (i.toNat)) (PF1.c2 (i.toNat))) := k5.cell 7
              have c5_9 : U33.cell? ⟨U2.heap.size, 9, none⟩ = some (.bool false) := k5.cell 9
              have c5_10 : U33.cell? ⟨U2.heap.size, 10, none⟩ = some (.bool true) := k5.cell 10
              have f5_4 := k5.free 4
              have f5_5 := k5.free 5
              have f5_6 := k5.free 6
              have f5_7 := k5.free 7
              have f5_9 := k5.free 9
              have f5_10 := k5.free 10
              have l5 := k5.lt
              have xw0 : (wrap64 (i + 1)) = (i + 1) := (HI1.out.1.w HM1.out)
              have ea0 : (0 : Int) ≤ (i + 1) := ((HI1.out.1.ix1 hz20)).1
              have eb0 : ((i + 1) : Int) < (pn1 : Int) := ((HI1.out.1.ix1 hz20)).2
              have el0 := RS.lt HB1.out
              have ec0_0 : U33.cell? ⟨pg1, (i + 1).toNat * 4, none⟩ = some (.bool (PF1.b ((i + 1).toNat))) := RS.c0 HB1.out (ixlt (HI1.out.1.ix1 hz20))
              have ec0_1 : U33.cell? ⟨pg1, (i + 1).toNat * 4 + 1, none⟩ = some (.slice (PF1.a ((i + 1).toNat)) (PF1.q ((i + 1).toNat)) (PF1.c ((i + 1).toNat))) := RS.c1 HB1.out (ixlt (HI1.out.1.ix1 hz20))
              have ec0_2 : U33.cell? ⟨pg1, (i + 1).toNat * 4 + 2, none⟩ = some (.bool (PF1.b2 ((i + 1).toNat))) := RS.c2 HB1.out (ixlt (HI1.out.1.ix1 hz20))
              have ec0_3 : U33.cell? ⟨pg1, (i + 1).toNat * 4 + 3, none⟩ = some (.slice (PF1.a2 ((i + 1).toNat)) (PF1.q2 ((i + 1).toNat)) (PF1.c2 ((i + 1).toNat))) := RS.c3 HB1.out (ixlt (HI1.out.1.ix1 hz20))
              have en0_5 := rs_ne HB1.out k5 (by decide)
              have em0_5 := en0_5.symm
              go_wp2_with fail
              clear c5_4 c5_5 c5_6 c5_7 c5_9 c5_10 f5_4 f5_5 f5_6 f5_7 f5_9 f5_10 l5 xw0 ea0 eb0 el0 ec0_0 ec0_1 ec0_2 ec0_3 en0_5 em0_5
              first | refine k_world ?_
              intro V34 hV34
              have hs_ : V34 = (setL (setL (setL U33 U2.heap.size 10 [.bool true]) U2.heap.size 4 [.bool (PF1.b ((i + 1).toNat)), .slice (PF1.a ((i + 1).toNat)) (PF1.q ((i + 1).toNat)) (PF1.c ((i + 1).toNat)), .bool (PF1.b2 ((i + 1).toNat)), .slice (PF1.a2 ((i + 1).toNat)) (PF1.q2 ((i + 1).toNat)) (PF1.c2 ((i + 1).toNat))]) U2.heap.size 9 [.bool true]) := hV34
              clear hV34
              obtain ⟨V35, hV35⟩ : ∃ v_ : World, v_ = setL U33 U2.heap.size 10 [.bool true] := ⟨_, rfl⟩
              rw [← hV35] at hs_
              have D116 := Lib.hid k1.lt
              have D117 := Lib.hid k2.lt
              have D118 := Lib.hid k3.lt
              have D119 := Lib.hid k4.lt
              have D120 := Lib.hid k5.lt
              have D121 := Lib.hid hb0.size
              have nk1 : Blk V35 w.heap.size #[.int .i64 ax, .int .i64 ay] 31 := by rw [hV35]; exact (blk_setL k1 (by have := D1.out; omega) 10 [.bool true])
              have nk2 : Blk V35 (w.heap.size + 1) #[.int .i64 bx, .int .i64 b_y] 31 := by rw [hV35]; exact (blk_setL k2 (by have := D2.out; omega) 10 [.bool true])
              have nk3 : Blk V35 (w.heap.size + 1 + 1) #[.int .i64 cx, .int .i64 cy] 31 := by rw [hV35]; exact (blk_setL k3 (by have := D3.out; omega) 10 [.bool true])
              have nk4 : Blk V35 (w.heap.size + 1 + 1 + 1) #[.bool false, .slice none 0 0, .bool false, .slice none 0 0, .bool false, .slice none 0 0, .bool false, .slice none 0 0, .bool false, .bool false, .bool false] 62 := by rw [hV35]; exact (blk_setL k4 (by have := D4.out; omega) 10 [.bool true])
              have nk5 : Blk V35 U2.heap.size #[.bool nA, .slice aA lA cA, .bool nB, .slice aB lB cB, .bool (PF1.b (i.toNat)), .slice (PF1.a (i.toNat)) (PF1.q (i.toNat)) (PF1.c (i.toNat)), .bool (PF1.b2 (i.toNat)), .slice (PF1.a2 (i.toNat)) (PF1.q2 (i.toNat)) (PF1.c2 (i.toNat)), .bool so, .bool false, .bool true] 62 := by rw [hV35]; exact (blk_putL k5 10 [.bool true])
              have nhb0 : Below w.heap.size w V35 := by rw [hV35]; exact (blw_setL hb0 (by have := D5.out; omega) 10 [.bool true])
              replace HB1 : Hid (RS V35 pg1 pc1 pn1 PF1) := Lib.hid (by rw [hV35]; exact (rs_setL HB1.out k5 (by decide) (Blk.cell k5 0) (fun _ h => by cases h) 10 [.bool true]))
              replace HB2 : Hid (Big V35 (.agg #[.bool nA, .slice aA lA cA]) fN 18) := Lib.hid (by rw [hV35]; exact (big_setL HB2.out (Blk.cell k5 0) (fun _ h => by cases h) 10 [.bool true]))
              replace HB3 : Hid (Big V35 (.agg #[.bool nB, .slice aB lB cB]) fD 18) := Lib.hid (by rw [hV35]; exact (big_setL HB3.out (Blk.cell k5 0) (fun _ h => by cases h) 10 [.bool true]))
              replace HB6 : Hid (Big V35 (.agg #[.bool bn6, .slice ba6 bl6 bc6]) r2 46) := Lib.hid (by rw [hV35]; exact (big_setL HB6.out (Blk.cell k5 0) (fun _ h => by cases h) 10 [.bool true]))
              replace HB7 : Hid (Big V35 (.agg #[.bool bn7, .slice ba7 bl7 bc7]) r3 46) := Lib.hid (by rw [hV35]; exact (big_setL HB7.out (Blk.cell k5 0) (fun _ h => by cases h) 10 [.bool true]))
              replace HB8 : Hid (Big V35 (.agg #[.bool bn8, .slice ba8 bl8 bc8]) r4 40) := Lib.hid (by rw [hV35]; exact (big_setL HB8.out (Blk.cell k5 0) (fun _ h => by cases h) 10 [.bool true]))
              replace HB19 : Hid (Big V35 (.agg #[.bool bn19, .slice ba19 bl19 bc19]) r21 37) := Lib.hid (by rw [hV35]; exact (big_setL HB19.out (Blk.cell k5 0) (fun _ h => by cases h) 10 [.bool true]))
              replace HB20 : Hid (Big V35 (.agg #[.bool bn20, .slice ba20 bl20 bc20]) r22 37) := Lib.hid (by rw [hV35]; exact (big_setL HB20.out (Blk.cell k5 0) (fun _ h => by cases h) 10 [.bool true]))
              replace HB21 : Hid (Big V35 (.agg #[.bool bn21, .slice ba21 bl21 bc21]) r23 46) := Lib.hid (by rw [hV35]; exact (big_setL HB21.out (Blk.cell k5 0) (fun _ h => by cases h) 10 [.bool true]))
              replace HB22 : Hid (Big V35 (.agg #[.bool bn22, .slice ba22 bl22 bc22]) r24 46) := Lib.hid (by rw [hV35]; exact (big_setL HB22.out (Blk.cell k5 0) (fun _ h => by cases h) 10 [.bool true]))
              replace HB23 : Hid (Big V35 (.agg #[.bool bn23, .slice ba23 bl23 bc23]) r25 40) := Lib.hid (by rw [hV35]; exact (big_setL HB23.out (Blk.cell k5 0) (fun _ h => by cases h) 10 [.bool true]))
              clear k1 k2 k3 k4 k5
              clear hb0
              clear hV35
              have k1 := nk1
              clear nk1
              have k2 := nk2
              clear nk2
              have k3 := nk3
              clear nk3
              have k4 := nk4
              clear nk4
              have k5 := nk5
              clear nk5
              have hb0 := nhb0
              clear nhb0
              obtain ⟨V36, hV36⟩ : ∃ v_ : World, v_ = setL V35 U2.heap.size 4 [.bool (PF1.b ((i + 1).toNat)), .slice (PF1.a ((i + 1).toNat)) (PF1.q ((i + 1).toNat)) (PF1.c ((i + 1).toNat)), .bool (PF1.b2 ((i + 1).toNat)), .slice (PF1.a2 ((i + 1).toNat)) (PF1.q2 ((i + 1).toNat)) (PF1.c2 ((i + 1).toNat))] := ⟨_, rfl⟩
              rw [← hV36] at hs_
              have D122 := Lib.hid k1.lt
              have D123 := Lib.hid k2.lt
              have D124 := Lib.hid k3.lt
              have D125 := Lib.hid k4.lt
              have D126 := Lib.hid k5.lt
              have D127 := Lib.hid hb0.size
              have nk1 : Blk V36 w.heap.size #[.int .i64 ax, .int .i64 ay] 31 := by rw [hV36]; exact (blk_setL k1 (by have := D1.out; omega) 4 [.bool (PF1.b ((i + 1).toNat)), .slice (PF1.a ((i + 1).toNat)) (PF1.q ((i + 1).toNat)) (PF1.c ((i + 1).toNat)), .bool (PF1.b2 ((i + 1).toNat)), .slice (PF1.a2 ((i + 1).toNat)) (PF1.q2 ((i + 1).toNat)) (PF1.c2 ((i + 1).toNat))])
              have nk2 : Blk V36 (w.heap.size + 1) #[.int .i64 bx, .int .i64 b_y] 31 := by rw [hV36]; exact (blk_setL k2 (by have := D2.out; omega) 4 [.bool (PF1.b ((i + 1).toNat)), .slice (PF1.a ((i + 1).toNat)) (PF1.q ((i + 1).toNat)) (PF1.c ((i + 1).toNat)), .bool (PF1.b2 ((i + 1).toNat)), .slice (PF1.a2 ((i + 1).toNat)) (PF1.q2 ((i + 1).toNat)) (PF1.c2 ((i + 1).toNat))])
              have nk3 : Blk V36 (w.heap.size + 1 + 1) #[.int .i64 cx, .int .i64 cy] 31 := by rw [hV36]; exact (blk_setL k3 (by have := D3.out; omega) 4 [.bool (PF1.b ((i + 1).toNat)), .slice (PF1.a ((i + 1).toNat)) (PF1.q ((i + 1).toNat)) (PF1.c ((i + 1).toNat)), .bool (PF1.b2 ((i + 1).toNat)), .slice (PF1.a2 ((i + 1).toNat)) (PF1.q2 ((i + 1).toNat)) (PF1.c2 ((i + 1).toNat))])
              have nk4 : Blk V36 (w.heap.size + 1 + 1 + 1) #[.bool false, .slice none 0 0, .bool false, .slice none 0 0, .bool false, .slice none 0 0, .bool false, .slice none 0 0, .bool false, .bool false, .bool false] 62 := by rw [hV36]; exact (blk_setL k4 (by have := D4.out; omega) 4 [.bool (PF1.b ((i + 1).toNat)), .slice (PF1.a ((i + 1).toNat)) (PF1.q ((i + 1).toNat)) (PF1.c ((i + 1).toNat)), .bool (PF1.b2 ((i + 1).toNat)), .slice (PF1.a2 ((i + 1).toNat)) (PF1.q2 ((i + 1).toNat)) (PF1.c2 ((i + 1).toNat))])
              have nk5 : Blk V36 U2.heap.size #[.bool nA, .slice aA lA cA, .bool nB, .slice aB lB cB, .bool (PF1.b ((i + 1).toNat)), .slice (PF1.a ((i + 1).toNat)) (PF1.q ((i + 1).toNat)) (PF1.c ((i + 1).toNat)), .bool (PF1.b2 ((i + 1).toNat)), .slice (PF1.a2 ((i + 1).toNat)) (PF1.q2 ((i + 1).toNat)) (PF1.c2 ((i + 1).toNat)), .bool so, .bool false, .bool true] 62 := by rw [hV36]; exact (blk_putL k5 4 [.bool (PF1.b ((i + 1).toNat)), .slice (PF1.a ((i + 1).toNat)) (PF1.q ((i + 1).toNat)) (PF1.c ((i + 1).toNat)), .bool (PF1.b2 ((i + 1).toNat)), .slice (PF1.a2 ((i + 1).toNat)) (PF1.q2 ((i + 1).toNat)) (PF1.c2 ((i + 1).toNat))])
              have nhb0 : Below w.heap.size w V36 := by rw [hV36]; exact (blw_setL hb0 (by have := D5.out; omega) 4 [.bool (PF1.b ((i + 1).toNat)), .slice (PF1.a ((i + 1).toNat)) (PF1.q ((i + 1).toNat)) (PF1.c ((i + 1).toNat)), .bool (PF1.b2 ((i + 1).toNat)), .slice (PF1.a2 ((i + 1).toNat)) (PF1.q2 ((i + 1).toNat)) (PF1.c2 ((i + 1).toNat))])
              replace HB1 : Hid (RS V36 pg1 pc1 pn1 PF1) := Lib.hid (by rw [hV36]; exact (rs_setL HB1.out k5 (by decide) (Blk.cell k5 0) (fun _ h => by cases h) 4 [.bool (PF1.b ((i + 1).toNat)), .slice (PF1.a ((i + 1).toNat)) (PF1.q ((i + 1).toNat)) (PF1.c ((i + 1).toNat)), .bool (PF1.b2 ((i + 1).toNat)), .slice (PF1.a2 ((i + 1).toNat)) (PF1.q2 ((i + 1).toNat)) (PF1.c2 ((i + 1).toNat))]))
              replace HB2 : Hid (Big V36 (.agg #[.bool nA, .slice aA lA cA]) fN 18) := Lib.hid (by rw [hV36]; exact (big_setL HB2.out (Blk.cell k5 0) (fun _ h => by cases h) 4 [.bool (PF1.b ((i + 1).toNat)), .slice (PF1.a ((i + 1).toNat)) (PF1.q ((i + 1).toNat)) (PF1.c ((i + 1).toNat)), .bool (PF1.b2 ((i + 1).toNat)), .slice (PF1.a2 ((i + 1).toNat)) (PF1.q2 ((i + 1).toNat)) (PF1.c2 ((i + 1).toNat))]))
              replace HB3 : Hid (Big V36 (.agg #[.bool nB, .slice aB lB cB]) fD 18) := Lib.hid (by rw [hV36]; exact (big_setL HB3.out (Blk.cell k5 0) (fun _ h => by cases h) 4 [.bool (PF1.b ((i + 1).toNat)), .slice (PF1.a ((i + 1).toNat)) (PF1.q ((i + 1).toNat)) (PF1.c ((i + 1).toNat)), .bool (PF1.b2 ((i + 1).toNat)), .slice (PF1.a2 ((i + 1).toNat)) (PF1.q2 ((i + 1).toNat)) (PF1.c2 ((i + 1).toNat))]))
              replace HB6 : Hid (Big V36 (.agg #[.bool bn6, .slice ba6 bl6 bc6]) r2 46) := Lib.hid (by rw [hV36]; exact (big_setL HB6.out (Blk.cell k5 0) (fun _ h => by cases h) 4 [.bool (PF1.b ((i + 1).toNat)), .slice (PF1.a ((i + 1).toNat)) (PF1.q ((i + 1).toNat)) (PF1.c ((i + 1).toNat)), .bool (PF1.b2 ((i + 1).toNat)), .slice (PF1.a2 ((i + 1).toNat)) (PF1.q2 ((i + 1).toNat)) (PF1.c2 ((i + 1).toNat))]))
              replace HB7 : Hid (Big V36 (.agg #[.bool bn7, .slice ba7 bl7 bc7]) r3 46) := Lib.hid (by rw [hV36]; exact (big_setL HB7.out (Blk.cell k5 0) (fun _ h => by cases h) 4 [.bool (PF1.b ((i + 1).toNat)), .slice (PF1.a ((i + 1).toNat)) (PF1.q ((i + 1).toNat)) (PF1.c ((i + 1).toNat)), .bool (PF1.b2 ((i + 1).toNat)), .slice (PF1.a2 ((i + 1).toNat)) (PF1.q2 ((i + 1).toNat)) (PF1.c2 ((i + 1).toNat))]))
              replace HB8 : Hid (Big V36 (.agg #[.bool bn8, .slice ba8 bl8 bc8]) r4 40) := Lib.hid (by rw [hV36]; exact (big_setL HB8.out (Blk.cell k5 0) (fun _ h => by cases h) 4 [.bool (PF1.b ((i + 1).toNat)), .slice (PF1.a ((i + 1).toNat)) (PF1.q ((i + 1).toNat)) (PF1.c ((i + 1).toNat)), .bool (PF1.b2 ((i + 1).toNat)), .slice (PF1.a2 ((i + 1).toNat)) (PF1.q2 ((i + 1).toNat)) (PF1.c2 ((i + 1).toNat))]))
              replace HB19 : Hid (Big V36 (.agg #[.bool bn19, .slice ba19 bl19 bc19]) r21 37) := Lib.hid (by rw [hV36]; exact (big_setL HB19.out (Blk.cell k5 0) (fun _ h => by cases h) 4 [.bool (PF1.b ((i + 1).toNat)), .slice (PF1.a ((i + 1).toNat)) (PF1.q ((i + 1).toNat)) (PF1.c ((i + 1).toNat)), .bool (PF1.b2 ((i + 1).toNat)), .slice (PF1.a2 ((i + 1).toNat)) (PF1.q2 ((i + 1).toNat)) (PF1.c2 ((i + 1).toNat))]))
              replace HB20 : Hid (Big V36 (.agg #[.bool bn20, .slice ba20 bl20 bc20]) r22 37) := Lib.hid (by rw [hV36]; exact (big_setL HB20.out (Blk.cell k5 0) (fun _ h => by cases h) 4 [.bool (PF1.b ((i + 1).toNat)), .slice (PF1.a ((i + 1).toNat)) (PF1.q ((i + 1).toNat)) (PF1.c ((i + 1).toNat)), .bool (PF1.b2 ((i + 1).toNat)), .slice (PF1.a2 ((i + 1).toNat)) (PF1.q2 ((i + 1).toNat)) (PF1.c2 ((i + 1).toNat))]))
              replace HB21 : Hid (Big V36 (.agg #[.bool bn21, .slice ba21 bl21 bc21]) r23 46) := Lib.hid (by rw [hV36]; exact (big_setL HB21.out (Blk.cell k5 0) (fun _ h => by cases h) 4 [.bool (PF1.b ((i + 1).toNat)), .slice (PF1.a ((i + 1).toNat)) (PF1.q ((i + 1).toNat)) (PF1.c ((i + 1).toNat)), .bool (PF1.b2 ((i + 1).toNat)), .slice (PF1.a2 ((i + 1).toNat)) (PF1.q2 ((i + 1).toNat)) (PF1.c2 ((i + 1).toNat))]))
              replace HB22 : Hid (Big V36 (.agg #[.bool bn22, .slice ba22 bl22 bc22]) r24 46) := Lib.hid (by rw [hV36]; exact (big_setL HB22.out (Blk.cell k5 0) (fun _ h => by cases h) 4 [.bool (PF1.b ((i + 1).toNat)), .slice (PF1.a ((i + 1).toNat)) (PF1.q ((i + 1).toNat)) (PF1.c ((i + 1).toNat)), .bool (PF1.b2 ((i + 1).toNat)), .slice (PF1.a2 ((i + 1).toNat)) (PF1.q2 ((i + 1).toNat)) (PF1.c2 ((i + 1).toNat))]))
              replace HB23 : Hid (Big V36 (.agg #[.bool bn23, .slice ba23 bl23 bc23]) r25 40) := Lib.hid (by rw [hV36]; exact (big_setL HB23.out (Blk.cell k5 0) (fun _ h => by cases h) 4 [.bool (PF1.b ((i + 1).toNat)), .slice (PF1.a ((i + 1).toNat)) (PF1.q ((i + 1).toNat)) (PF1.c ((i + 1).toNat)), .bool (PF1.b2 ((i + 1).toNat)), .slice (PF1.a2 ((i + 1).toNat)) (PF1.q2 ((i + 1).toNat)) (PF1.c2 ((i + 1).toNat))]))
              clear k1 k2 k3 k4 k5
              clear hb0
              clear hV36
              have k1 := nk1
              clear nk1
              have k2 := nk2
              clear nk2
              have k3 := nk3
              clear nk3
              have k4 := nk4
              clear nk4
              have k5 := nk5
              clear nk5
              have hb0 := nhb0
              clear nhb0
              have hV34 := hs_
              clear hs_
              have D128 := Lib.hid k1.lt
              have D129 := Lib.hid k2.lt
              have D130 := Lib.hid k3.lt
              have D131 := Lib.hid k4.lt
              have D132 := Lib.hid k5.lt
              have D133 := Lib.hid hb0.size
              have nk1 : Blk V34 w.heap.size #[.int .i64 ax, .int .i64 ay] 31 := by rw [hV34]; exact (blk_setL k1 (by have := D1.out; omega) 9 [.bool true])
              have nk2 : Blk V34 (w.heap.size + 1) #[.int .i64 bx, .int .i64 b_y] 31 := by rw [hV34]; exact (blk_setL k2 (by have := D2.out; omega) 9 [.bool true])
              have nk3 : Blk V34 (w.heap.size + 1 + 1) #[.int .i64 cx, .int .i64 cy] 31 := by rw [hV34]; exact (blk_setL k3 (by have := D3.out; omega) 9 [.bool true])
              have nk4 : Blk V34 (w.heap.size + 1 + 1 + 1) #[.bool false, .slice none 0 0, .bool false, .slice none 0 0, .bool false, .slice none 0 0, .bool false, .slice none 0 0, .bool false, .bool false, .bool false] 62 := by rw [hV34]; exact (blk_setL k4 (by have := D4.out; omega) 9 [.bool true])
              have nk5 : Blk V34 U2.heap.size #[.bool nA, .slice aA lA cA, .bool nB, .slice aB lB cB, .bool (PF1.b ((i + 1).toNat)), .slice (PF1.a ((i + 1).toNat)) (PF1.q ((i + 1).toNat)) (PF1.c ((i + 1).toNat)), .bool (PF1.b2 ((i + 1).toNat)), .slice (PF1.a2 ((i + 1).toNat)) (PF1.q2 ((i + 1).toNat)) (PF1.c2 ((i + 1).toNat)), .bool so, .bool true, .bool true] 62 := by rw [hV34]; exact (blk_putL k5 9 [.bool true])
              have nhb0 : Below w.heap.size w V34 := by rw [hV34]; exact (blw_setL hb0 (by have := D5.out; omega) 9 [.bool true])
              replace HB1 : Hid (RS V34 pg1 pc1 pn1 PF1) := Lib.hid (by rw [hV34]; exact (rs_setL HB1.out k5 (by decide) (Blk.cell k5 0) (fun _ h => by cases h) 9 [.bool true]))
              replace HB2 : Hid (Big V34 (.agg #[.bool nA, .slice aA lA cA]) fN 18) := Lib.hid (by rw [hV34]; exact (big_setL HB2.out (Blk.cell k5 0) (fun _ h => by cases h) 9 [.bool true]))
              replace HB3 : Hid (Big V34 (.agg #[.bool nB, .slice aB lB cB]) fD 18) := Lib.hid (by rw [hV34]; exact (big_setL HB3.out (Blk.cell k5 0) (fun _ h => by cases h) 9 [.bool true]))
              replace HB6 : Hid (Big V34 (.agg #[.bool bn6, .slice ba6 bl6 bc6]) r2 46) := Lib.hid (by rw [hV34]; exact (big_setL HB6.out (Blk.cell k5 0) (fun _ h => by cases h) 9 [.bool true]))
              replace HB7 : Hid (Big V34 (.agg #[.bool bn7, .slice ba7 bl7 bc7]) r3 46) := Lib.hid (by rw [hV34]; exact (big_setL HB7.out (Blk.cell k5 0) (fun _ h => by cases h) 9 [.bool true]))
              replace HB8 : Hid (Big V34 (.agg #[.bool bn8, .slice ba8 bl8 bc8]) r4 40) := Lib.hid (by rw [hV34]; exact (big_setL HB8.out (Blk.cell k5 0) (fun _ h => by cases h) 9 [.bool true]))
              replace HB19 : Hid (Big V34 (.agg #[.bool bn19, .slice ba19 bl19 bc19]) r21 37) := Lib.hid (by rw [hV34]; exact (big_setL HB19.out (Blk.cell k5 0) (fun _ h => by cases h) 9 [.bool true]))
              replace HB20 : Hid (Big V34 (.agg #[.bool bn20, .slice ba20 bl20 bc20]) r22 37) := Lib.hid (by rw [hV34]; exact (big_setL HB20.out (Blk.cell k5 0) (fun _ h => by cases h) 9 [.bool true]))
              replace HB21 : Hid (Big V34 (.agg #[.bool bn21, .slice ba21 bl21 bc21]) r23 46) := Lib.hid (by rw [hV34]; exact (big_setL HB21.out (Blk.cell k5 0) (fun _ h => by cases h) 9 [.bool true]))
              replace HB22 : Hid (Big V34 (.agg #[.bool bn22, .slice ba22 bl22 bc22]) r24 46) := Lib.hid (by rw [hV34]; exact (big_setL HB22.out (Blk.cell k5 0) (fun _ h => by cases h) 9 [.bool true]))
              replace HB23 : Hid (Big V34 (.agg #[.bool bn23, .slice ba23 bl23 bc23]) r25 40) := Lib.hid (by rw [hV34]; exact (big_setL HB23.out (Blk.cell k5 0) (fun _ h => by cases h) 9 [.bool true]))
              clear k1 k2 k3 k4 k5
              clear hb0
              clear hV34
              have k1 := nk1
              clear nk1
              have k2 := nk2
              clear nk2
              have k3 := nk3
              clear nk3
              have k4 := nk4
              clear nk4
              have k5 := nk5
              clear nk5
              have hb0 := nhb0
              clear nhb0
              have HIn : CuI ax ay bx b_y cx cy n PF1 pn1 (i + 1) ⟨true, fN, fD, (PF1.N ((i + 1).toNat)), (PF1.D ((i + 1).toNat)), so, true⟩ ∧ pn1 - (i + 1).toNat ≤ ((pn1 - ((i + 1)).toNat) : Nat) := by
                first
                  | (exact ⟨CuI.more HI1.out.1 hz1 hz20 (by have p1 := PC_v Hr2.out Hr3.out Hr4.out Hz5.out; have p2 := PM_v Hr21.out Hr22.out Hr23.out Hr24.out Hr25.out Hz26.out; unfold midF hitF; simp only [p1, p2, cond_true, cond_false]), by have := HI1.out.2; have := of_decide_eq_true hz1; have := HI1.out.1.1; omega⟩)
                  | (exact ⟨CuI.last HI1.out.1 hz1 hz20 (by have p1 := PC_v Hr2.out Hr3.out Hr4.out Hz5.out; unfold hitF; simp only [p1, cond_true, cond_false]), by have := HI1.out.2; have := of_decide_eq_true hz1; have := HI1.out.1.1; omega⟩)
              try rw [show (wrap64 (i + 1)) = (i + 1) from (HI1.out.1.w HM1.out)]
              go_roundg (pn1 - ((i + 1)).toNat)
              case measure =>
                have q_ := of_decide_eq_true hz1
                have q2_ := HI1.out.2
                have q3_ := HI1.out.1.1
                omega
              case rel => exact ⟨(i + 1), fN, fD, (PF1.N ((i + 1).toNat)), (PF1.D ((i + 1).toNat)), so, true, true, nA, aA, lA, cA, nB, aB, lB, cB, (PF1.b ((i + 1).toNat)), (PF1.a ((i + 1).toNat)), (PF1.q ((i + 1).toNat)), (PF1.c ((i + 1).toNat)), (PF1.b2 ((i + 1).toNat)), (PF1.a2 ((i + 1).toNat)), (PF1.q2 ((i + 1).toNat)), (PF1.c2 ((i + 1).toNat)), rfl, Lib.hid HIn, k1, k2, k3, k4, k5, HB1.out, HB2.out, HB3.out, (RS.num HB1.out _ (ixlt (HI1.out.1.ix1 hz20))), (RS.den HB1.out _ (ixlt (HI1.out.1.ix1 hz20))), hb0⟩
end Go.Proofs.Ytlcbomjdbdgbmaa

namespace Go.Proofs.Ytlcbomjdbdgbmaa
open Go.RowKit

theorem blk_row {w : World} {b : Nat} {q : Array Value} {t : TypeId} (h : Blk w b q t) (cs : Array Value) : Blk (w.setRow b cs) b cs t := setRow_heap _ _ _ _ _ _ h
theorem blw_row {B g : Nat} {w0 w : World} (hb : Below B w0 w) (hBg : B ≤ g) (cs : Array Value) : Below B w0 (w.setRow g cs) :=
  hb.trans ⟨rfl, rfl, rfl, by simp, fun k hk => setRow_other _ _ _ _ (by omega)⟩
@[go_sem] theorem cell_rowo (w : World) (g : Nat) (cs : Array Value) (b o : Nat) (h : b ≠ g) : (w.setRow g cs).cell? ⟨b, o, none⟩ = w.cell? ⟨b, o, none⟩ := cell_setRow_other w g cs ⟨b, o, none⟩ h
theorem stRow {P : Program} {ops : Array Oper} {rest : List Oper} {dst : Option Tmp} {ty tp : TypeId} {x y : Operand} {ps : String} {af} {a : Act} {w : World} {Q : Exit → Act → World → Prop}
    (g : Nat) (cells : Array Value) (t : TypeId) (old : Array Value) (hg : Blk w g old t) (hx : a.eval x = .pointer (some ⟨g, 0, none⟩)) (hy : a.eval y = .agg cells) (hi : (P.info? ty).map (·.size) = some cells.size)
    (hold : old.size = cells.size) (h1 : cells.all (·.oneCell') = true) (h : wpList P ops Q rest (a.put dst undef) (w.setRow g cells)) : wpList P ops Q ({ dst := dst, op := .store ty x y, type := tp, pos := ps, after := af, guard := none } :: rest) a w :=
  wpList_store_row rfl ty x y rfl g cells hx hy t old hg hi hold h1 h
theorem ldRow {P : Program} {ops : Array Oper} {rest : List Oper} {dst : Option Tmp} {ty tp : TypeId} {x : Operand} {ps : String} {af} {a : Act} {w : World} {Q : Exit → Act → World → Prop}
    (g : Nat) (cs : Array Value) (t : TypeId) (hg : Blk w g cs t) (hx : a.eval x = .pointer (some ⟨g, 0, none⟩)) (hu : ∃ d, P.underlying ty = some d ∧ (match d with | .struct _ | .array _ _ => true | _ => false) = true) (hi : (P.info? ty).map (·.size) = some cs.size)
    (h : wpList P ops Q rest (a.put dst (.agg cs)) w) : wpList P ops Q ({ dst := dst, op := .load ty x, type := tp, pos := ps, after := af, guard := none } :: rest) a w :=
  by
  obtain ⟨d, h1, h2⟩ := hu
  exact wpList_load_row rfl ty x rfl g hx t cs (0, 0) d hg h1 (by cases d <;> first | rfl | (simp at h2)) hi h
theorem results_row_tmp {P : Program} {fn : Func} {p u : Tmp} {ty : TypeId} (h : fn.results = #[.cell p ty, .tmp u]) (tmps : Array Value) (w : World) (g : Nat) (t : TypeId) (cs : Array Value) (fr : Nat × Nat) (d : TypeDesc)
    (hp : tmps.getD p undef = .pointer (some ⟨g, 0, none⟩)) (hg : w.heap[g]? = some (.cells cs t fr))
    (hu : P.underlying ty = some d) (hd : (match d with | .struct _ | .array _ _ => true | _ => false) = true) (hi : (P.info? ty).map (·.size) = some cs.size) :
    (results fn tmps).run P w = .ok (.tuple #[.agg cs, tmps.getD u undef]) w := by
  have hp' : tmps[p]?.getD undef = .pointer (some ⟨g, 0, none⟩) := by simpa using hp
  simp [results, h, hp', asAddr, run_loadVar_row w g t ty cs fr d hg hu hd hi]
end Go.Proofs.Ytlcbomjdbdgbmaa

namespace Go.Proofs.Ytlcbomjdbdgbmaa
open Go.RowKit

set_option maxRecDepth 100000 in
set_option maxHeartbeats 4000000 in

theorem pxCut_0 (ax : Int) (ay : Int) (bx : Int) (b_y : Int) (cx : Int) (cy : Int) (n : Int)  (R0 : Int) (R1 : Int) (R2 : Int) (R3 : Int) (R4 : Bool) (R5 : Bool) (R6 : Bool) (hR0 : (fun (_ : Int) (_ : Int) (_ : Int) (_ : Int) (_ : Int) (_ : Int) (_ : Int) => 0) ax ay bx b_y cx cy n = R0) (hR1 : (fun (_ : Int) (_ : Int) (_ : Int) (_ : Int) (_ : Int) (_ : Int) (_ : Int) => 0) ax ay bx b_y cx cy n = R1) (hR2 : (fun (_ : Int) (_ : Int) (_ : Int) (_ : Int) (_ : Int) (_ : Int) (_ : Int) => 0) ax ay bx b_y cx cy n = R2) (hR3 : (fun (_ : Int) (_ : Int) (_ : Int) (_ : Int) (_ : Int) (_ : Int) (_ : Int) => 0) ax ay bx b_y cx cy n = R3) (hR4 : (fun (_ : Int) (_ : Int) (_ : Int) (_ : Int) (_ : Int) (_ : Int) (_ : Int) => false) ax ay bx b_y cx cy n = R4) (hR5 : (fun (_ : Int) (_ : Int) (_ : Int) (_ : Int) (_ : Int) (_ : Int) (_ : Int) => false) ax ay bx b_y cx cy n = R5) (hR6 : (fun (_ : Int) (_ : Int) (_ : Int) (_ : Int) (_ : Int) (_ : Int) (_ : Int) => false) ax ay bx b_y cx cy n = R6) (hP0 : pxS n = false) (_iax : In64 ax) (_iay : In64 ay) (_ibx : In64 bx) (_ib_y : In64 b_y) (_icx : In64 cx) (_icy : In64 cy) (_in : In64 n)  (w : World)  :
    Calls Try.prog 30 #[.agg #[.int .i64 ax, .int .i64 ay, .int .i64 bx, .int .i64 b_y], .agg #[.int .i64 cx, .int .i64 cy], .int .i64 n] w fun e w' => e = .returned (.tuple #[.agg #[.int .u64 (wd0 R0), .int .u64 (wd1 R0), .int .u64 (wd2 R0), .int .u64 (wd3 R0), .int .u64 (wd0 R1), .int .u64 (wd1 R1), .int .u64 (wd2 R1), .int .u64 (wd3 R1), .int .u64 (wd0 R2), .int .u64 (wd1 R2), .int .u64 (wd2 R2), .int .u64 (wd3 R2), .int .u64 (wd0 R3), .int .u64 (wd1 R3), .int .u64 (wd2 R3), .int .u64 (wd3 R3), .bool R4, .bool R5], .bool R6]) ∧ Below w.heap.size w w' := by

  have HP0 := Lib.hid hP0
  clear hP0
  have HR0 := Lib.hid hR0
  clear hR0
  have HR1 := Lib.hid hR1
  clear hR1
  have HR2 := Lib.hid hR2
  clear hR2
  have HR3 := Lib.hid hR3
  clear hR3
  have HR4 := Lib.hid hR4
  clear hR4
  have HR5 := Lib.hid hR5
  clear hR5
  have HR6 := Lib.hid hR6
  clear hR6
  go_enter Try.func30, Try.ntmps30
  go_wp2_with fail
  first | refine calls_w ?_ | refine name_world ?_ | refine list_world ?_ | refine post_world ?_
  intro V1 hV1
  have hn : Below w.heap.size w V1 := by rw [hV1]; exact below_a3 _ _ _ _
  have nhb0 := hn
  have k1 : Blk V1 w.heap.size #[.int .i64 ax, .int .i64 ay, .int .i64 bx, .int .i64 b_y] 50 := by rw [hV1]; exact (((Blk.new _ _ _).alloc _).alloc _)
  have k2 : Blk V1 (w.heap.size + 1) #[.int .i64 cx, .int .i64 cy] 24 := by rw [hV1]; exact ((Blk.new1 _ _ _ _).alloc _)
  have k3 : Blk V1 (w.heap.size + 1 + 1) #[.int .u64 0, .int .u64 0, .int .u64 0, .int .u64 0, .int .u64 0, .int .u64 0, .int .u64 0, .int .u64 0, .int .u64 0, .int .u64 0, .int .u64 0, .int .u64 0, .int .u64 0, .int .u64 0, .int .u64 0, .int .u64 0, .bool false, .bool false] 54 := by rw [hV1]; exact (Blk.new2 _ _ _ _ _)
  clear hV1
  have hb0 := nhb0
  clear nhb0
  refine (pxSize_is n false HP0.out _in  _).mono ?_
  rintro e U2 ⟨rfl, hn⟩
  replace k1 := k1.of hn
  replace k2 := k2.of hn
  replace k3 := k3.of hn
  replace hb0 := hb0.trans (hn.mono hb0.size)
  clear hn
  have e0 : 0 = R0 := by rw [← HR0.out]; (try rw [HP0.out]); all_goals first | rfl | simp
  have e1 : 0 = R1 := by rw [← HR1.out]; (try rw [HP0.out]); all_goals first | rfl | simp
  have e2 : 0 = R2 := by rw [← HR2.out]; (try rw [HP0.out]); all_goals first | rfl | simp
  have e3 : 0 = R3 := by rw [← HR3.out]; (try rw [HP0.out]); all_goals first | rfl | simp
  have e4 : false = R4 := by rw [← HR4.out]; (try rw [HP0.out]); all_goals first | rfl | simp
  have e5 : false = R5 := by rw [← HR5.out]; (try rw [HP0.out]); all_goals first | rfl | simp
  have e6 : false = R6 := by rw [← HR6.out]; (try rw [HP0.out]); all_goals first | rfl | simp
  subst e0
  subst e1
  subst e2
  subst e3
  subst e4
  subst e5
  subst e6
  go_wp2_with (first | ((with_reducible refine stRow (w.heap.size + 1 + 1) #[.int .u64 0, .int .u64 0, .int .u64 0, .int .u64 0, .int .u64 0, .int .u64 0, .int .u64 0, .int .u64 0, .int .u64 0, .int .u64 0, .int .u64 0, .int .u64 0, .int .u64 0, .int .u64 0, .int .u64 0, .int .u64 0, .bool false, .bool false] _ _ k3 ?_ ?_ ?_ ?_ ?_ ?_); rfl; rfl; (as_aux_lemma => kernel_rfl); rfl; (as_aux_lemma => kernel_rfl); simp only [Act.put]))
  first | refine post_world ?_
  intro V3 hV3
  have D1 := Lib.hid k1.lt
  have D2 := Lib.hid k2.lt
  have D3 := Lib.hid k3.lt
  have D4 := Lib.hid hb0.size
  clear k1 k2
  have nk3 : Blk V3 (w.heap.size + 1 + 1) #[.int .u64 0, .int .u64 0, .int .u64 0, .int .u64 0, .int .u64 0, .int .u64 0, .int .u64 0, .int .u64 0, .int .u64 0, .int .u64 0, .int .u64 0, .int .u64 0, .int .u64 0, .int .u64 0, .int .u64 0, .int .u64 0, .bool false, .bool false] 54 := by rw [hV3]; exact blk_row k3 _
  have nhb0 : Below w.heap.size w V3 := by rw [hV3]; exact blw_row hb0 (by omega) _
  clear k3
  clear hb0
  clear hV3
  have k3 := nk3
  clear nk3
  have hb0 := nhb0
  clear nhb0
  refine ⟨rfl, _, results_row_tmp rfl _ _ _ _ _ _ _ rfl k3 rfl rfl (by as_aux_lemma => kernel_rfl), ?_, hb0⟩
  first | rfl | kernel_rfl

set_option maxRecDepth 100000 in
set_option maxHeartbeats 4000000 in

theorem pxCut_1 (ax : Int) (ay : Int) (bx : Int) (b_y : Int) (cx : Int) (cy : Int) (n : Int)  (R0 : Int) (R1 : Int) (R2 : Int) (R3 : Int) (R4 : Bool) (R5 : Bool) (R6 : Bool) (hR0 : (fun (_ : Int) (_ : Int) (_ : Int) (_ : Int) (_ : Int) (_ : Int) (_ : Int) => 0) ax ay bx b_y cx cy n = R0) (hR1 : (fun (_ : Int) (_ : Int) (_ : Int) (_ : Int) (_ : Int) (_ : Int) (_ : Int) => 0) ax ay bx b_y cx cy n = R1) (hR2 : (fun (_ : Int) (_ : Int) (_ : Int) (_ : Int) (_ : Int) (_ : Int) (_ : Int) => 0) ax ay bx b_y cx cy n = R2) (hR3 : (fun (_ : Int) (_ : Int) (_ : Int) (_ : Int) (_ : Int) (_ : Int) (_ : Int) => 0) ax ay bx b_y cx cy n = R3) (hR4 : (fun (_ : Int) (_ : Int) (_ : Int) (_ : Int) (_ : Int) (_ : Int) (_ : Int) => false) ax ay bx b_y cx cy n = R4) (hR5 : (fun (_ : Int) (_ : Int) (_ : Int) (_ : Int) (_ : Int) (_ : Int) (_ : Int) => false) ax ay bx b_y cx cy n = R5) (hR6 : (fun (_ : Int) (_ : Int) (_ : Int) (_ : Int) (_ : Int) (_ : Int) (_ : Int) => false) ax ay bx b_y cx cy n = R6) (hP0 : pxS n = true) (hP1 : sgR ax ay bx b_y = false) (_iax : In64 ax) (_iay : In64 ay) (_ibx : In64 bx) (_ib_y : In64 b_y) (_icx : In64 cx) (_icy : In64 cy) (_in : In64 n)  (w : World)  :
    Calls Try.prog 30 #[.agg #[.int .i64 ax, .int .i64 ay, .int .i64 bx, .int .i64 b_y], .agg #[.int .i64 cx, .int .i64 cy], .int .i64 n] w fun e w' => e = .returned (.tuple #[.agg #[.int .u64 (wd0 R0), .int .u64 (wd1 R0), .int .u64 (wd2 R0), .int .u64 (wd3 R0), .int .u64 (wd0 R1), .int .u64 (wd1 R1), .int .u64 (wd2 R1), .int .u64 (wd3 R1), .int .u64 (wd0 R2), .int .u64 (wd1 R2), .int .u64 (wd2 R2), .int .u64 (wd3 R2), .int .u64 (wd0 R3), .int .u64 (wd1 R3), .int .u64 (wd2 R3), .int .u64 (wd3 R3), .bool R4, .bool R5], .bool R6]) ∧ Below w.heap.size w w' := by

  have HP0 := Lib.hid hP0
  clear hP0
  have HP1 := Lib.hid hP1
  clear hP1
  have HR0 := Lib.hid hR0
  clear hR0
  have HR1 := Lib.hid hR1
  clear hR1
  have HR2 := Lib.hid hR2
  clear hR2
  have HR3 := Lib.hid hR3
  clear hR3
  have HR4 := Lib.hid hR4
  clear hR4
  have HR5 := Lib.hid hR5
  clear hR5
  have HR6 := Lib.hid hR6
  clear hR6
  go_enter Try.func30, Try.ntmps30
  go_wp2_with fail
  first | refine calls_w ?_ | refine name_world ?_ | refine list_world ?_ | refine post_world ?_
  intro V1 hV1
  have hn : Below w.heap.size w V1 := by rw [hV1]; exact below_a3 _ _ _ _
  have nhb0 := hn
  have k1 : Blk V1 w.heap.size #[.int .i64 ax, .int .i64 ay, .int .i64 bx, .int .i64 b_y] 50 := by rw [hV1]; exact (((Blk.new _ _ _).alloc _).alloc _)
  have k2 : Blk V1 (w.heap.size + 1) #[.int .i64 cx, .int .i64 cy] 24 := by rw [hV1]; exact ((Blk.new1 _ _ _ _).alloc _)
  have k3 : Blk V1 (w.heap.size + 1 + 1) #[.int .u64 0, .int .u64 0, .int .u64 0, .int .u64 0, .int .u64 0, .int .u64 0, .int .u64 0, .int .u64 0, .int .u64 0, .int .u64 0, .int .u64 0, .int .u64 0, .int .u64 0, .int .u64 0, .int .u64 0, .int .u64 0, .bool false, .bool false] 54 := by rw [hV1]; exact (Blk.new2 _ _ _ _ _)
  clear hV1
  have hb0 := nhb0
  clear nhb0
  refine (pxSize_is n true HP0.out _in  _).mono ?_
  rintro e U2 ⟨rfl, hn⟩
  replace k1 := k1.of hn
  replace k2 := k2.of hn
  replace k3 := k3.of hn
  replace hb0 := hb0.trans (hn.mono hb0.size)
  clear hn
  have c1_0 : U2.cell? ⟨w.heap.size, 0, none⟩ = some (.int .i64 ax) := k1.cell 0
  have c1_1 : U2.cell? ⟨w.heap.size, 1, none⟩ = some (.int .i64 ay) := k1.cell 1
  have c1_2 : U2.cell? ⟨w.heap.size, 2, none⟩ = some (.int .i64 bx) := k1.cell 2
  have c1_3 : U2.cell? ⟨w.heap.size, 3, none⟩ = some (.int .i64 b_y) := k1.cell 3
  have l1 := k1.lt
  go_wp2_with fail
  clear c1_0 c1_1 c1_2 c1_3 l1
  refine (SegRight_is ax ay bx b_y false HP1.out _iax _iay _ibx _ib_y  _).mono ?_
  rintro e U3 ⟨rfl, hn⟩
  replace k1 := k1.of hn
  replace k2 := k2.of hn
  replace k3 := k3.of hn
  replace hb0 := hb0.trans (hn.mono hb0.size)
  clear hn
  have e0 : 0 = R0 := by rw [← HR0.out]; (try rw [HP0.out]); (try rw [HP1.out]); all_goals first | rfl | simp
  have e1 : 0 = R1 := by rw [← HR1.out]; (try rw [HP0.out]); (try rw [HP1.out]); all_goals first | rfl | simp
  have e2 : 0 = R2 := by rw [← HR2.out]; (try rw [HP0.out]); (try rw [HP1.out]); all_goals first | rfl | simp
  have e3 : 0 = R3 := by rw [← HR3.out]; (try rw [HP0.out]); (try rw [HP1.out]); all_goals first | rfl | simp
  have e4 : false = R4 := by rw [← HR4.out]; (try rw [HP0.out]); (try rw [HP1.out]); all_goals first | rfl | simp
  have e5 : false = R5 := by rw [← HR5.out]; (try rw [HP0.out]); (try rw [HP1.out]); all_goals first | rfl | simp
  have e6 : false = R6 := by rw [← HR6.out]; (try rw [HP0.out]); (try rw [HP1.out]); all_goals first | rfl | simp
  subst e0
  subst e1
  subst e2
  subst e3
  subst e4
  subst e5
  subst e6
  go_wp2_with (first | ((with_reducible refine stRow (w.heap.size + 1 + 1) #[.int .u64 0, .int .u64 0, .int .u64 0, .int .u64 0, .int .u64 0, .int .u64 0, .int .u64 0, .int .u64 0, .int .u64 0, .int .u64 0, .int .u64 0, .int .u64 0, .int .u64 0, .int .u64 0, .int .u64 0, .int .u64 0, .bool false, .bool false] _ _ k3 ?_ ?_ ?_ ?_ ?_ ?_); rfl; rfl; (as_aux_lemma => kernel_rfl); rfl; (as_aux_lemma => kernel_rfl); simp only [Act.put]))
  first | refine post_world ?_
  intro V4 hV4
  have D1 := Lib.hid k1.lt
  have D2 := Lib.hid k2.lt
  have D3 := Lib.hid k3.lt
  have D4 := Lib.hid hb0.size
  clear k1 k2
  have nk3 : Blk V4 (w.heap.size + 1 + 1) #[.int .u64 0, .int .u64 0, .int .u64 0, .int .u64 0, .int .u64 0, .int .u64 0, .int .u64 0, .int .u64 0, .int .u64 0, .int .u64 0, .int .u64 0, .int .u64 0, .int .u64 0, .int .u64 0, .int .u64 0, .int .u64 0, .bool false, .bool false] 54 := by rw [hV4]; exact blk_row k3 _
  have nhb0 : Below w.heap.size w V4 := by rw [hV4]; exact blw_row hb0 (by omega) _
  clear k3
  clear hb0
  clear hV4
  have k3 := nk3
  clear nk3
  have hb0 := nhb0
  clear nhb0
  refine ⟨rfl, _, results_row_tmp rfl _ _ _ _ _ _ _ rfl k3 rfl rfl (by as_aux_lemma => kernel_rfl), ?_, hb0⟩
  first | rfl | kernel_rfl

set_option maxRecDepth 100000 in
set_option maxHeartbeats 4000000 in

theorem pxCut_2 (ax : Int) (ay : Int) (bx : Int) (b_y : Int) (cx : Int) (cy : Int) (n : Int)  (R0 : Int) (R1 : Int) (R2 : Int) (R3 : Int) (R4 : Bool) (R5 : Bool) (R6 : Bool) (hR0 : (fun (_ : Int) (_ : Int) (_ : Int) (_ : Int) (_ : Int) (_ : Int) (_ : Int) => 0) ax ay bx b_y cx cy n = R0) (hR1 : (fun (_ : Int) (_ : Int) (_ : Int) (_ : Int) (_ : Int) (_ : Int) (_ : Int) => 0) ax ay bx b_y cx cy n = R1) (hR2 : (fun (_ : Int) (_ : Int) (_ : Int) (_ : Int) (_ : Int) (_ : Int) (_ : Int) => 0) ax ay bx b_y cx cy n = R2) (hR3 : (fun (_ : Int) (_ : Int) (_ : Int) (_ : Int) (_ : Int) (_ : Int) (_ : Int) => 0) ax ay bx b_y cx cy n = R3) (hR4 : (fun (_ : Int) (_ : Int) (_ : Int) (_ : Int) (_ : Int) (_ : Int) (_ : Int) => false) ax ay bx b_y cx cy n = R4) (hR5 : (fun (_ : Int) (_ : Int) (_ : Int) (_ : Int) (_ : Int) (_ : Int) (_ : Int) => false) ax ay bx b_y cx cy n = R5) (hR6 : (fun (_ : Int) (_ : Int) (_ : Int) (_ : Int) (_ : Int) (_ : Int) (_ : Int) => false) ax ay bx b_y cx cy n = R6) (hP0 : pxS n = true) (hP1 : sgR ax ay bx b_y = true) (hP2 : rp cx cy = false) (_iax : In64 ax) (_iay : In64 ay) (_ibx : In64 bx) (_ib_y : In64 b_y) (_icx : In64 cx) (_icy : In64 cy) (_in : In64 n)  (w : World)  :
    Calls Try.prog 30 #[.agg #[.int .i64 ax, .int .i64 ay, .int .i64 bx, .int .i64 b_y], .agg #[.int .i64 cx, .int .i64 cy], .int .i64 n] w fun e w' => e = .returned (.tuple #[.agg #[.int .u64 (wd0 R0), .int .u64 (wd1 R0), .int .u64 (wd2 R0), .int .u64 (wd3 R0), .int .u64 (wd0 R1), .int .u64 (wd1 R1), .int .u64 (wd2 R1), .int .u64 (wd3 R1), .int .u64 (wd0 R2), .int .u64 (wd1 R2), .int .u64 (wd2 R2), .int .u64 (wd3 R2), .int .u64 (wd0 R3), .int .u64 (wd1 R3), .int .u64 (wd2 R3), .int .u64 (wd3 R3), .bool R4, .bool R5], .bool R6]) ∧ Below w.heap.size w w' := by

  have HP0 := Lib.hid hP0
  clear hP0
  have HP1 := Lib.hid hP1
  clear hP1
  have HP2 := Lib.hid hP2
  clear hP2
  have HR0 := Lib.hid hR0
  clear hR0
  have HR1 := Lib.hid hR1
  clear hR1
  have HR2 := Lib.hid hR2
  clear hR2
  have HR3 := Lib.hid hR3
  clear hR3
  have HR4 := Lib.hid hR4
  clear hR4
  have HR5 := Lib.hid hR5
  clear hR5
  have HR6 := Lib.hid hR6
  clear hR6
  go_enter Try.func30, Try.ntmps30
  go_wp2_with fail
  first | refine calls_w ?_ | refine name_world ?_ | refine list_world ?_ | refine post_world ?_
  intro V1 hV1
  have hn : Below w.heap.size w V1 := by rw [hV1]; exact below_a3 _ _ _ _
  have nhb0 := hn
  have k1 : Blk V1 w.heap.size #[.int .i64 ax, .int .i64 ay, .int .i64 bx, .int .i64 b_y] 50 := by rw [hV1]; exact (((Blk.new _ _ _).alloc _).alloc _)
  have k2 : Blk V1 (w.heap.size + 1) #[.int .i64 cx, .int .i64 cy] 24 := by rw [hV1]; exact ((Blk.new1 _ _ _ _).alloc _)
  have k3 : Blk V1 (w.heap.size + 1 + 1) #[.int .u64 0, .int .u64 0, .int .u64 0, .int .u64 0, .int .u64 0, .int .u64 0, .int .u64 0, .int .u64 0, .int .u64 0, .int .u64 0, .int .u64 0, .int .u64 0, .int .u64 0, .int .u64 0, .int .u64 0, .int .u64 0, .bool false, .bool false] 54 := by rw [hV1]; exact (Blk.new2 _ _ _ _ _)
  clear hV1
  have hb0 := nhb0
  clear nhb0
  refine (pxSize_is n true HP0.out _in  _).mono ?_
  rintro e U2 ⟨rfl, hn⟩
  replace k1 := k1.of hn
  replace k2 := k2.of hn
  replace k3 := k3.of hn
  replace hb0 := hb0.trans (hn.mono hb0.size)
  clear hn
  have c1_0 : U2.cell? ⟨w.heap.size, 0, none⟩ = some (.int .i64 ax) := k1.cell 0
  have c1_1 : U2.cell? ⟨w.heap.size, 1, none⟩ = some (.int .i64 ay) := k1.cell 1
  have c1_2 : U2.cell? ⟨w.heap.size, 2, none⟩ = some (.int .i64 bx) := k1.cell 2
  have c1_3 : U2.cell? ⟨w.heap.size, 3, none⟩ = some (.int .i64 b_y) := k1.cell 3
  have l1 := k1.lt
  go_wp2_with fail
  clear c1_0 c1_1 c1_2 c1_3 l1
  refine (SegRight_is ax ay bx b_y true HP1.out _iax _iay _ibx _ib_y  _).mono ?_
  rintro e U3 ⟨rfl, hn⟩
  replace k1 := k1.of hn
  replace k2 := k2.of hn
  replace k3 := k3.of hn
  replace hb0 := hb0.trans (hn.mono hb0.size)
  clear hn
  have c2_0 : U3.cell? ⟨(w.heap.size + 1), 0, none⟩ = some (.int .i64 cx) := k2.cell 0
  have c2_1 : U3.cell? ⟨(w.heap.size + 1), 1, none⟩ = some (.int .i64 cy) := k2.cell 1
  have l2 := k2.lt
  go_wp2_with fail
  clear c2_0 c2_1 l2
  refine (PtRight_v cx cy false HP2.out _).mono ?_
  rintro e U4 ⟨rfl, hn⟩
  replace k1 := k1.of hn
  replace k2 := k2.of hn
  replace k3 := k3.of hn
  replace hb0 := hb0.trans (hn.mono hb0.size)
  clear hn
  have e0 : 0 = R0 := by rw [← HR0.out]; (try rw [HP0.out]); (try rw [HP1.out]); (try rw [HP2.out]); all_goals first | rfl | simp
  have e1 : 0 = R1 := by rw [← HR1.out]; (try rw [HP0.out]); (try rw [HP1.out]); (try rw [HP2.out]); all_goals first | rfl | simp
  have e2 : 0 = R2 := by rw [← HR2.out]; (try rw [HP0.out]); (try rw [HP1.out]); (try rw [HP2.out]); all_goals first | rfl | simp
  have e3 : 0 = R3 := by rw [← HR3.out]; (try rw [HP0.out]); (try rw [HP1.out]); (try rw [HP2.out]); all_goals first | rfl | simp
  have e4 : false = R4 := by rw [← HR4.out]; (try rw [HP0.out]); (try rw [HP1.out]); (try rw [HP2.out]); all_goals first | rfl | simp
  have e5 : false = R5 := by rw [← HR5.out]; (try rw [HP0.out]); (try rw [HP1.out]); (try rw [HP2.out]); all_goals first | rfl | simp
  have e6 : false = R6 := by rw [← HR6.out]; (try rw [HP0.out]); (try rw [HP1.out]); (try rw [HP2.out]); all_goals first | rfl | simp
  subst e0
  subst e1
  subst e2
  subst e3
  subst e4
  subst e5
  subst e6
  go_wp2_with (first | ((with_reducible refine stRow (w.heap.size + 1 + 1) #[.int .u64 0, .int .u64 0, .int .u64 0, .int .u64 0, .int .u64 0, .int .u64 0, .int .u64 0, .int .u64 0, .int .u64 0, .int .u64 0, .int .u64 0, .int .u64 0, .int .u64 0, .int .u64 0, .int .u64 0, .int .u64 0, .bool false, .bool false] _ _ k3 ?_ ?_ ?_ ?_ ?_ ?_); rfl; rfl; (as_aux_lemma => kernel_rfl); rfl; (as_aux_lemma => kernel_rfl); simp only [Act.put]))
  first | refine post_world ?_
  intro V5 hV5
  have D1 := Lib.hid k1.lt
  have D2 := Lib.hid k2.lt
  have D3 := Lib.hid k3.lt
  have D4 := Lib.hid hb0.size
  clear k1 k2
  have nk3 : Blk V5 (w.heap.size + 1 + 1) #[.int .u64 0, .int .u64 0, .int .u64 0, .int .u64 0, .int .u64 0, .int .u64 0, .int .u64 0, .int .u64 0, .int .u64 0, .int .u64 0, .int .u64 0, .int .u64 0, .int .u64 0, .int .u64 0, .int .u64 0, .int .u64 0, .bool false, .bool false] 54 := by rw [hV5]; exact blk_row k3 _
  have nhb0 : Below w.heap.size w V5 := by rw [hV5]; exact blw_row hb0 (by omega) _
  clear k3
  clear hb0
  clear hV5
  have k3 := nk3
  clear nk3
  have hb0 := nhb0
  clear nhb0
  refine ⟨rfl, _, results_row_tmp rfl _ _ _ _ _ _ _ rfl k3 rfl rfl (by as_aux_lemma => kernel_rfl), ?_, hb0⟩
  first | rfl | kernel_rfl
end Go.Proofs.Ytlcbomjdbdgbmaa

