/- My texts PcF, PcG, PcH, joined: what the last one needs of them. Conditions: as each lemma says. -/
import Derived.Test.YtlcbomjdbdgbmaaSPc4
import Derived.KernelRfl
import Derived.StillTail
import Derived.OrdersHeld
import Derived.Deep.Quiet
import Derived.Below
import Derived.WalkKit
import Derived.Test.YtlcbomjdbdgbmaaProg
import Derived.WalkSpells
import Derived.StillTactics
import Derived.Laws.Pointers
import Derived.Deep.RegionHeld3
import Derived.RowKit3
import Derived.Deep.QuietTactic
import Derived.BigQuiet
import Derived.BigRegion
import Derived.Lib.Hide
import Derived.WalkSmall
import Derived.Laws.BitsAllLaws
import Derived.IntWalk
import Derived.Deep.OwnRows
import Derived.Deep.LoopGhost
import Derived.Shelf.Bits.Mul64
import Derived.ProofKit
import Derived.OpenShut
import Derived.ShutString
import Derived.ChangeOld
import Derived.Lib.SmallJoins
import Derived.Laws.IdiomArrays
import Derived.RowKit
import Derived.Deep.WholeRow
import Derived.Laws.Rows
namespace Go.Proofs.Ytlcbomjdbdgbmaa
open Go.RowKit

theorem alPcE_0 : AllocRuns Try.prog 28 #[.bool false, .slice none 0 0] := fun w => by kernel_rfl

set_option maxRecDepth 100000 in
set_option maxHeartbeats 4000000 in

theorem Ts_g (ax : Int) (ay : Int) (bx : Int) (b_y : Int) (cx : Int) (cy : Int) (n : Int)    (_iax : In64 ax) (_iay : In64 ay) (_ibx : In64 bx) (_ib_y : In64 b_y) (_icx : In64 cx) (_icy : In64 cy) (_in : In64 n)  (w : World)  :
    Calls Try.prog 95 #[.agg #[.int .i64 ax, .int .i64 ay], .agg #[.int .i64 bx, .int .i64 b_y], .agg #[.int .i64 cx, .int .i64 cy], .int .i64 n] w fun e w' => ∃ (g cap m : Nat) (F : RF), e = .returned (.slice (some ⟨g, 0, none⟩) m cap) ∧ RS w' g cap m F ∧ F.list m = Tq4 ax ay bx b_y cx cy n ∧ m ≤ 6 ∧ Below w.heap.size w w' := by

  go_enter Try.func95, Try.ntmps95
  go_wp2_with fail
  first | refine calls_w ?_ | refine name_world ?_ | refine list_world ?_ | refine post_world ?_
  intro V1 hV1
  have hn : Below w.heap.size w V1 := by rw [hV1]; exact below_a3 _ _ _ _
  have nhb0 := hn
  have k1 : Blk V1 w.heap.size #[.int .i64 ax, .int .i64 ay] 31 := by rw [hV1]; exact (((Blk.new _ _ _).alloc _).alloc _)
  have k2 : Blk V1 (w.heap.size + 1) #[.int .i64 bx, .int .i64 b_y] 31 := by rw [hV1]; exact ((Blk.new1 _ _ _ _).alloc _)
  have k3 : Blk V1 (w.heap.size + 1 + 1) #[.int .i64 cx, .int .i64 cy] 31 := by rw [hV1]; exact (Blk.new2 _ _ _ _ _)
  clear hV1
  have hb0 := nhb0
  clear nhb0
  refine (bigOf_v 0 0 rfl (by unfold In64; omega) _).mono ?_
  rintro e U2 ⟨v_, rfl, hbm, hn⟩
  replace k1 := k1.of hn
  replace k2 := k2.of hn
  replace k3 := k3.of hn
  replace hb0 := hb0.trans (hn.mono hb0.size)
  clear hn
  have HB1 := Lib.hid hbm
  have hvm := hbm.shape
  clear hbm
  obtain ⟨bn1, ba1, bl1, bc1, rfl⟩ := hvm
  go_wp2_with fail
  refine (bigOf_v 1 1 rfl (by unfold In64; omega) _).mono ?_
  rintro e U3 ⟨v_, rfl, hbm, hn⟩
  replace k1 := k1.of hn
  replace k2 := k2.of hn
  replace k3 := k3.of hn
  replace HB1 := Lib.hid (HB1.out.of hn)
  replace hb0 := hb0.trans (hn.mono hb0.size)
  clear hn
  have HB2 := Lib.hid hbm
  have hvm := hbm.shape
  clear hbm
  obtain ⟨bn2, ba2, bl2, bc2, rfl⟩ := hvm
  go_wp2_with fail
  refine (bigOf_v 1 1 rfl (by unfold In64; omega) _).mono ?_
  rintro e U4 ⟨v_, rfl, hbm, hn⟩
  replace k1 := k1.of hn
  replace k2 := k2.of hn
  replace k3 := k3.of hn
  replace HB1 := Lib.hid (HB1.out.of hn)
  replace HB2 := Lib.hid (HB2.out.of hn)
  replace hb0 := hb0.trans (hn.mono hb0.size)
  clear hn
  have HB3 := Lib.hid hbm
  have hvm := hbm.shape
  clear hbm
  obtain ⟨bn3, ba3, bl3, bc3, rfl⟩ := hvm
  go_wp2_with fail
  refine (bigOf_v 1 1 rfl (by unfold In64; omega) _).mono ?_
  rintro e U5 ⟨v_, rfl, hbm, hn⟩
  replace k1 := k1.of hn
  replace k2 := k2.of hn
  replace k3 := k3.of hn
  replace HB1 := Lib.hid (HB1.out.of hn)
  replace HB2 := Lib.hid (HB2.out.of hn)
  replace HB3 := Lib.hid (HB3.out.of hn)
  replace hb0 := hb0.trans (hn.mono hb0.size)
  clear hn
  have HB4 := Lib.hid hbm
  have hvm := hbm.shape
  clear hbm
  obtain ⟨bn4, ba4, bl4, bc4, rfl⟩ := hvm
  have c1_0 : U5.cell? ⟨w.heap.size, 0, none⟩ = some (.int .i64 ax) := k1.cell 0
  have c1_1 : U5.cell? ⟨w.heap.size, 1, none⟩ = some (.int .i64 ay) := k1.cell 1
  have l1 := k1.lt
  have c2_0 : U5.cell? ⟨(w.heap.size + 1), 0, none⟩ = some (.int .i64 bx) := k2.cell 0
  have c2_1 : U5.cell? ⟨(w.heap.size + 1), 1, none⟩ = some (.int .i64 b_y) := k2.cell 1
  have l2 := k2.lt
  have l2_0 : w.heap.size < U5.heap.size := by have := k2.lt; omega
  have c3_0 : U5.cell? ⟨(w.heap.size + 1 + 1), 0, none⟩ = some (.int .i64 cx) := k3.cell 0
  have c3_1 : U5.cell? ⟨(w.heap.size + 1 + 1), 1, none⟩ = some (.int .i64 cy) := k3.cell 1
  have l3 := k3.lt
  have l3_0 : w.heap.size < U5.heap.size := by have := k3.lt; omega
  have l3_1 : w.heap.size + 1 < U5.heap.size := by have := k3.lt; omega
  go_wp2_with fail
  clear c1_0 c1_1 l1 c2_0 c2_1 l2 l2_0 c3_0 c3_1 l3 l3_0 l3_1
  first | refine name_world ?_
  intro V6 hV6
  clear k1 k2 k3
  have D1 := Lib.hid hb0.size
  have hn : Below U5.heap.size U5 V6 := by rw [hV6]; exact below_a4 _ _ _ _ _
  replace HB1 := Lib.hid (HB1.out.of hn)
  replace HB2 := Lib.hid (HB2.out.of hn)
  replace HB3 := Lib.hid (HB3.out.of hn)
  replace HB4 := Lib.hid (HB4.out.of hn)
  have nhb0 := hb0.trans (hn.mono hb0.size)
  clear hn
  have k4 : Blk V6 U5.heap.size #[.bool bn1, .slice ba1 bl1 bc1, .bool bn2, .slice ba2 bl2 bc2, .bool bn3, .slice ba3 bl3 bc3, .bool bn4, .slice ba4 bl4 bc4] 60 := by rw [hV6]; exact ((((Blk.new _ _ _).alloc _).alloc _).alloc _)
  have k5 : Blk V6 (U5.heap.size + 1) #[.int .i64 ax, .int .i64 ax, .int .i64 ay, .int .i64 ay] 162 := by rw [hV6]; exact (((Blk.new1 _ _ _ _).alloc _).alloc _)
  have k6 : Blk V6 (U5.heap.size + 1 + 1) #[.int .i64 ((wrap64 (bx - ax))), .int .i64 ((wrap64 (bx - ax))), .int .i64 ((wrap64 (b_y - ay))), .int .i64 ((wrap64 (b_y - ay)))] 162 := by rw [hV6]; exact ((Blk.new2 _ _ _ _ _).alloc _)
  have k7 : Blk V6 (U5.heap.size + 1 + 1 + 1) #[.int .i64 ((wrap64 ((wrap64 ((wrap64 (2 * cx)) * n)) - n))), .int .i64 ((wrap64 ((wrap64 ((wrap64 (2 * cx)) * n)) + n))), .int .i64 ((wrap64 ((wrap64 ((wrap64 (2 * cy)) * n)) - n))), .int .i64 ((wrap64 ((wrap64 ((wrap64 (2 * cy)) * n)) + n)))] 162 := by rw [hV6]; exact (Blk.new3 _ _ _ _ _ _)
  clear hb0
  clear hV6
  have hb0 := nhb0
  clear nhb0
  have HRS0 := Lib.hid (rs_two k4 (HB1.out.mono (by decide)) (HB2.out.mono (by decide)) (HB3.out.mono (by decide)) (HB4.out.mono (by decide)))
  clear k4
  clear HB1 HB2 HB3 HB4
  go_loopg [13, 9] 4 (fun gk_ s1_0 s1_1 wr => ∃ (i : Int) (tg tc tn : Nat) (TF : RF), s1_0 = .int .i64 i ∧ s1_1 = .slice (some ⟨tg, 0, none⟩) tn tc ∧ Hid (TsI ax ay bx b_y cx cy n i tn TF ∧ 4 - Int.toNat i ≤ (gk_ : Nat)) ∧ Blk wr (U5.heap.size + 1) #[.int .i64 ax, .int .i64 ax, .int .i64 ay, .int .i64 ay] 162 ∧ Blk wr (U5.heap.size + 1 + 1) #[.int .i64 ((wrap64 (bx - ax))), .int .i64 ((wrap64 (bx - ax))), .int .i64 ((wrap64 (b_y - ay))), .int .i64 ((wrap64 (b_y - ay)))] 162 ∧ Blk wr (U5.heap.size + 1 + 1 + 1) #[.int .i64 ((wrap64 ((wrap64 ((wrap64 (2 * cx)) * n)) - n))), .int .i64 ((wrap64 ((wrap64 ((wrap64 (2 * cx)) * n)) + n))), .int .i64 ((wrap64 ((wrap64 ((wrap64 (2 * cy)) * n)) - n))), .int .i64 ((wrap64 ((wrap64 ((wrap64 (2 * cy)) * n)) + n)))] 162 ∧ RS wr tg tc tn TF ∧ Below w.heap.size w wr)
  case atStart =>
    have HIn : TsI ax ay bx b_y cx cy n 0 2 (rf2 bn1 ba1 bl1 bc1 0 bn2 ba2 bl2 bc2 1 bn3 ba3 bl3 bc3 1 bn4 ba4 bl4 bc4 1) ∧ 4 - Int.toNat 0 ≤ (4 : Nat) := by
      exact ⟨.inl ⟨rfl, rfl, by decide⟩, by decide⟩
    exact ⟨0, U5.heap.size, 2, 2, (rf2 bn1 ba1 bl1 bc1 0 bn2 ba2 bl2 bc2 1 bn3 ba3 bl3 bc3 1 bn4 ba4 bl4 bc4 1), rfl, rfl, Lib.hid HIn, k5, k6, k7, HRS0.out, hb0⟩
  case round =>
    rename World => W1_
    rename Nat => gk1
    clear k5 k6 k7 HRS0
    clear hb0
    obtain ⟨i, tg, tc, tn, TF, rfl, rfl, HI1, k5, k6, k7, HB5_, hb0⟩ := hrel
    have HB5 := Lib.hid HB5_
    clear HB5_
    rcases HI1.out.1 with ⟨rfl, hl⟩ | ⟨rfl, hl⟩ | ⟨rfl, hl⟩ | ⟨rfl, hl⟩ | ⟨rfl, hl⟩
    · have HT := Lib.hid hl
      clear hl
      go_wp2_with fail
      obtain ⟨r1, hr1⟩ : ∃ o_o : Int, (wrap64 ((wrap64 ((wrap64 ((wrap64 (2 * cx)) * n)) - n)) - (wrap64 (2 * ax)))) = o_o := ⟨_, rfl⟩
      have Hr1 := Lib.hid hr1
      clear hr1
      have c5_0 : W1_.cell? ⟨(U5.heap.size + 1), 0, none⟩ = some (.int .i64 ax) := k5.cell 0
      have l5 := k5.lt
      have c7_0 : W1_.cell? ⟨(U5.heap.size + 1 + 1 + 1), 0, none⟩ = some (.int .i64 ((wrap64 ((wrap64 ((wrap64 (2 * cx)) * n)) - n)))) := k7.cell 0
      have l7 := k7.lt
      have Kk5 := Lib.hid k5
      clear k5
      have Kk6 := Lib.hid k6
      clear k6
      have Kk7 := Lib.hid k7
      clear k7
      refine wp_region_float1 10 9 [(true, 0), (true, 1), (true, 2), (true, 3), (true, 4), (true, 5), (true, 6), (true, 7), (false, 8)] (by kernel_rfl) (by kernel_rfl) (fun _ _ d _ _ => by cases d <;> exact Iff.rfl) rfl rfl rfl alPcE_0 ?_
      have hb : Below W1_.heap.size W1_ W1_.drew := (Below.refl _ _).drew
      iterate 8
        refine wpF_take rfl rfl ?_
        go_big_quiet_step (rfl)
        refine wpQuiet_nil ?_
      refine wpF_do rfl ?_
      intro w1 hg K hK
      replace hb := hb.trans (hg.mono hb.size)
      try replace HB6 := Lib.hid (HB6.out.of hg)
      clear hg
      go_wp2_with ((go_at_call 66; (with_reducible refine (bigOf_v (wrap64 ((wrap64 ((wrap64 ((wrap64 (2 * cx)) * n)) - n)) - (wrap64 (2 * ax)))) r1 Hr1.out (wrap64_in _) _).mono ?_); rintro e w2 ⟨v_, rfl, hbm, hn⟩; have HB6 := Lib.hid hbm; have hvm := hbm.shape; clear hbm; obtain ⟨bn6, ba6, bl6, bc6, rfl⟩ := hvm))
      refine hK.out _ _ hn ?_
      replace hb := hb.trans (hn.mono hb.size)
      clear hK K
      clear hn
      refine wpF_nil ?_
      clear hb
      intro w1 hg hb b1 lb1 nb1
      replace HB6 := Lib.hid (HB6.out.of hg)
      clear hg
      simp only [Act.put, ptrTo, List.setIfInBounds_toArray, List.set_cons_succ, List.set_cons_zero]
      simp only [List.drop_succ_cons, List.drop_zero]
      clear c5_0 l5 c7_0 l7
      first | refine calls_w ?_ | refine name_world ?_ | refine list_world ?_ | refine post_world ?_
      intro U7 hU7
      subst hU7
      have D2 := Lib.hid Kk5.out.lt
      have D3 := Lib.hid Kk6.out.lt
      have D4 := Lib.hid Kk7.out.lt
      have D5 := Lib.hid hb0.size
      have k8 : Blk U7 b1 #[.bool false, .slice none 0 0] 28 := nb1
      have k5 := Kk5.out.of hb
      clear Kk5
      have k6 := Kk6.out.of hb
      clear Kk6
      have k7 := Kk7.out.of hb
      clear Kk7
      have D6 := Lib.hid lb1
      clear nb1 lb1
      replace HB5 := Lib.hid (HB5.out.of hb)
      replace hb0 := hb0.trans (hb.mono hb0.size)
      clear hb
      generalize b1 = q8 at *
      have c6_0 : U7.cell? ⟨(U5.heap.size + 1 + 1), 0, none⟩ = some (.int .i64 ((wrap64 (bx - ax)))) := k6.cell 0
      have l6 := k6.lt
      have c8_0 : U7.cell? ⟨q8, 0, none⟩ = some (.bool false) := k8.cell 0
      have c8_1 : U7.cell? ⟨q8, 1, none⟩ = some (.slice none 0 0) := k8.cell 1
      have f8_0 := k8.free 0
      have f8_1 := k8.free 1
      have l8 := k8.lt
      have p6_8 : (U5.heap.size + 1 + 1) ≠ q8 := (by have := D3.out; have := D6.out; omega)
      go_wp2_with fail
      clear c6_0 l6 c8_0 c8_1 f8_0 f8_1 l8 p6_8
      first | refine calls_w ?_ | refine name_world ?_ | refine list_world ?_ | refine post_world ?_
      intro V8 hV8
      have D7 := Lib.hid k5.lt
      have D8 := Lib.hid k6.lt
      have D9 := Lib.hid k7.lt
      have D10 := Lib.hid k8.lt
      have D11 := Lib.hid hb0.size
      have nk5 : Blk V8 (U5.heap.size + 1) #[.int .i64 ax, .int .i64 ax, .int .i64 ay, .int .i64 ay] 162 := by rw [hV8]; exact (blk_setL k5 (by have := D2.out; have := D6.out; omega) 0 [.bool bn6, .slice ba6 bl6 bc6])
      have nk6 : Blk V8 (U5.heap.size + 1 + 1) #[.int .i64 ((wrap64 (bx - ax))), .int .i64 ((wrap64 (bx - ax))), .int .i64 ((wrap64 (b_y - ay))), .int .i64 ((wrap64 (b_y - ay)))] 162 := by rw [hV8]; exact (blk_setL k6 (by have := D3.out; have := D6.out; omega) 0 [.bool bn6, .slice ba6 bl6 bc6])
      have nk7 : Blk V8 (U5.heap.size + 1 + 1 + 1) #[.int .i64 ((wrap64 ((wrap64 ((wrap64 (2 * cx)) * n)) - n))), .int .i64 ((wrap64 ((wrap64 ((wrap64 (2 * cx)) * n)) + n))), .int .i64 ((wrap64 ((wrap64 ((wrap64 (2 * cy)) * n)) - n))), .int .i64 ((wrap64 ((wrap64 ((wrap64 (2 * cy)) * n)) + n)))] 162 := by rw [hV8]; exact (blk_setL k7 (by have := D4.out; have := D6.out; omega) 0 [.bool bn6, .slice ba6 bl6 bc6])
      have nk8 : Blk V8 q8 #[.bool bn6, .slice ba6 bl6 bc6] 28 := by rw [hV8]; exact (blk_full _ [.bool bn6, .slice ba6 bl6 bc6] k8 rfl)
      have nhb0 : Below w.heap.size w V8 := by rw [hV8]; exact (blw_setL hb0 (by have := D5.out; have := D6.out; omega) 0 [.bool bn6, .slice ba6 bl6 bc6])
      replace HB5 : Hid (RS V8 tg tc tn TF) := Lib.hid (by rw [hV8]; exact (rs_setL HB5.out k8 (by decide) (Blk.cell k8 0) (fun _ h => by cases h) 0 [.bool bn6, .slice ba6 bl6 bc6]))
      replace HB6 : Hid (Big V8 (.agg #[.bool bn6, .slice ba6 bl6 bc6]) r1 5) := Lib.hid (by rw [hV8]; exact (big_setL HB6.out (Blk.cell k8 0) (fun _ h => by cases h) 0 [.bool bn6, .slice ba6 bl6 bc6]))
      clear k5 k6 k7 k8
      clear hb0
      clear hV8
      have k5 := nk5
      clear nk5
      have k6 := nk6
      clear nk6
      have k7 := nk7
      clear nk7
      have k8 := nk8
      clear nk8
      have hb0 := nhb0
      clear nhb0
      obtain ⟨r2, hr2⟩ : ∃ o_o : Int, (wrap64 (2 * (wrap64 (bx - ax)))) = o_o := ⟨_, rfl⟩
      have Hr2 := Lib.hid hr2
      clear hr2
      refine (bigOf_v (wrap64 (2 * (wrap64 (bx - ax)))) r2 Hr2.out (wrap64_in _) _).mono ?_
      rintro e U9 ⟨v_, rfl, hbm, hn⟩
      replace k5 := k5.of hn
      replace k6 := k6.of hn
      replace k7 := k7.of hn
      replace k8 := k8.of hn
      replace HB5 := Lib.hid (HB5.out.of hn)
      replace HB6 := Lib.hid (HB6.out.of hn)
      replace hb0 := hb0.trans (hn.mono hb0.size)
      clear hn
      have HB7 := Lib.hid hbm
      have hvm := hbm.shape
      clear hbm
      obtain ⟨bn7, ba7, bl7, bc7, rfl⟩ := hvm
      obtain ⟨z3, hz3⟩ : ∃ o_o : Bool, decide ((wrap64 (bx - ax)) < 0) = o_o := ⟨_, rfl⟩
      cases z3
      · obtain ⟨z4, hz4⟩ : ∃ o_o : Bool, ((wrap64 (bx - ax)) == 0) = o_o := ⟨_, rfl⟩
        cases z4
        · have nz4 : ¬ (wrap64 (bx - ax)) = 0 := by simpa using hz4
          have c6_0 : U9.cell? ⟨(U5.heap.size + 1 + 1), 0, none⟩ = some (.int .i64 ((wrap64 (bx - ax)))) := k6.cell 0
          have l6 := k6.lt
          have l6_0 : U5.heap.size < U9.heap.size := by have := k6.lt; omega
          have l6_1 : U5.heap.size + 1 < U9.heap.size := by have := k6.lt; omega
          have c8_0 : U9.cell? ⟨q8, 0, none⟩ = some (.bool bn6) := k8.cell 0
          have c8_1 : U9.cell? ⟨q8, 1, none⟩ = some (.slice ba6 bl6 bc6) := k8.cell 1
          have l8 := k8.lt
          go_wp2_with fail
          clear c6_0 l6 l6_0 l6_1 c8_0 c8_1 l8
          first | refine calls_w ?_ | refine name_world ?_ | refine list_world ?_ | refine post_world ?_
          intro V10 hV10
          have D12 := Lib.hid k5.lt
          have D13 := Lib.hid k6.lt
          have D14 := Lib.hid k7.lt
          have D15 := Lib.hid k8.lt
          have D16 := Lib.hid hb0.size
          have hn : Below U9.heap.size U9 V10 := by rw [hV10]; exact below_a1 _ _
          have nk5 := k5.of hn
          have nk6 := k6.of hn
          have nk7 := k7.of hn
          have nk8 := k8.of hn
          replace HB5 := Lib.hid (HB5.out.of hn)
          replace HB6 := Lib.hid (HB6.out.of hn)
          replace HB7 := Lib.hid (HB7.out.of hn)
          have nhb0 := hb0.trans (hn.mono hb0.size)
          clear hn
          have k11 : Blk V10 U9.heap.size #[.bool bn7, .slice ba7 bl7 bc7] 28 := by rw [hV10]; exact (Blk.new _ _ _)
          clear k5 k6 k7 k8
          clear hb0
          clear hV10
          have k5 := nk5
          clear nk5
          have k6 := nk6
          clear nk6
          have k7 := nk7
          clear nk7
          have k8 := nk8
          clear nk8
          have hb0 := nhb0
          clear nhb0
          obtain ⟨r5, hr5⟩ : ∃ o_o : Int, r1.sign = o_o := ⟨_, rfl⟩
          have Hr5 := Lib.hid hr5
          clear hr5
          refine (bigSign_v (.agg #[.bool bn6, .slice ba6 bl6 bc6]) r1 5 r5 Hr5.out _ HB6.out).mono ?_
          rintro e U11 ⟨rfl, hn⟩
          replace k5 := k5.of hn
          replace k6 := k6.of hn
          replace k7 := k7.of hn
          replace k8 := k8.of hn
          replace k11 := k11.of hn
          replace HB5 := Lib.hid (HB5.out.of hn)
          replace HB6 := Lib.hid (HB6.out.of hn)
          replace HB7 := Lib.hid (HB7.out.of hn)
          replace hb0 := hb0.trans (hn.mono hb0.size)
          clear hn
          obtain ⟨z6, hz6⟩ : ∃ o_o : Bool, decide (0 ≤ r5) = o_o := ⟨_, rfl⟩
          cases z6
          · go_wp2_with fail
            have HIn : TsI ax ay bx b_y cx cy n 1 tn TF ∧ 4 - Int.toNat 1 ≤ ((4 - Int.toNat (1)) : Nat) := by
              first
                | (exact ⟨TsI.same0 HT.out (tsG_zero hz4), by have := HI1.out.2; omega⟩)
                | (exact ⟨TsI.same0 HT.out (tsG_lo hz4 (gN_pos hz3 Hr1.out) Hr5.out hz6), by have := HI1.out.2; omega⟩)
                | (exact ⟨TsI.same1 HT.out (tsG_zero hz4), by have := HI1.out.2; omega⟩)
            go_roundg (4 - Int.toNat (1))
            case measure =>
              have q_ := HI1.out.2
              omega
            case rel => exact ⟨1, tg, tc, tn, TF, rfl, rfl, Lib.hid HIn, k5, k6, k7, HB5.out, hb0⟩
          · have c8_0 : U11.cell? ⟨q8, 0, none⟩ = some (.bool bn6) := k8.cell 0
            have c8_1 : U11.cell? ⟨q8, 1, none⟩ = some (.slice ba6 bl6 bc6) := k8.cell 1
            have l8 := k8.lt
            have c11_0 : U11.cell? ⟨U9.heap.size, 0, none⟩ = some (.bool bn7) := k11.cell 0
            have c11_1 : U11.cell? ⟨U9.heap.size, 1, none⟩ = some (.slice ba7 bl7 bc7) := k11.cell 1
            have l11 := k11.lt
            go_wp2_with fail
            clear c8_0 c8_1 l8 c11_0 c11_1 l11
            obtain ⟨r7, hr7⟩ : ∃ o_o : Int, cmpI r1 r2 = o_o := ⟨_, rfl⟩
            have Hr7 := Lib.hid hr7
            clear hr7
            refine (bigCmp_v (.agg #[.bool bn6, .slice ba6 bl6 bc6]) (.agg #[.bool bn7, .slice ba7 bl7 bc7]) r1 r2 5 5 r7 Hr7.out _ HB6.out HB7.out).mono ?_
            rintro e U12 ⟨rfl, hn⟩
            replace k5 := k5.of hn
            replace k6 := k6.of hn
            replace k7 := k7.of hn
            replace k8 := k8.of hn
            replace k11 := k11.of hn
            replace HB5 := Lib.hid (HB5.out.of hn)
            replace HB6 := Lib.hid (HB6.out.of hn)
            replace HB7 := Lib.hid (HB7.out.of hn)
            replace hb0 := hb0.trans (hn.mono hb0.size)
            clear hn
            obtain ⟨z8, hz8⟩ : ∃ o_o : Bool, decide (r7 ≤ 0) = o_o := ⟨_, rfl⟩
            cases z8
            · go_wp2_with fail
              have HIn : TsI ax ay bx b_y cx cy n 1 tn TF ∧ 4 - Int.toNat 1 ≤ ((4 - Int.toNat (1)) : Nat) := by
                first
                  | (exact ⟨TsI.same0 HT.out (tsG_zero hz4), by have := HI1.out.2; omega⟩)
                  | (exact ⟨TsI.same0 HT.out (tsG_hi hz4 (gN_pos hz3 Hr1.out) (gN_pos hz3 Hr2.out) Hr7.out hz8), by have := HI1.out.2; omega⟩)
                  | (exact ⟨TsI.same0 HT.out (tsG_lo hz4 (gN_pos hz3 Hr1.out) Hr5.out hz6), by have := HI1.out.2; omega⟩)
                  | (exact ⟨TsI.same1 HT.out (tsG_zero hz4), by have := HI1.out.2; omega⟩)
              go_roundg (4 - Int.toNat (1))
              case measure =>
                have q_ := HI1.out.2
                omega
              case rel => exact ⟨1, tg, tc, tn, TF, rfl, rfl, Lib.hid HIn, k5, k6, k7, HB5.out, hb0⟩
            · have c8_0 : U12.cell? ⟨q8, 0, none⟩ = some (.bool bn6) := k8.cell 0
              have c8_1 : U12.cell? ⟨q8, 1, none⟩ = some (.slice ba6 bl6 bc6) := k8.cell 1
              have l8 := k8.lt
              have c11_0 : U12.cell? ⟨U9.heap.size, 0, none⟩ = some (.bool bn7) := k11.cell 0
              have c11_1 : U12.cell? ⟨U9.heap.size, 1, none⟩ = some (.slice ba7 bl7 bc7) := k11.cell 1
              have l11 := k11.lt
              go_wp2_with fail
              clear c8_0 c8_1 l8 c11_0 c11_1 l11
              refine (put_g r1 r2 tg tc tn TF bn6 ba6 bl6 bc6 bn7 ba7 bl7 bc7 _ HB5.out (HB6.out.mono (by decide)) (HB7.out.mono (by decide)) (Lib.hid (by have := HT.out.2; omega))).mono ?_
              rintro e U13 ⟨pg8, pc8, pn8, PF8, rfl, hbm, hlm, hn⟩
              replace k5 := k5.of hn
              replace k6 := k6.of hn
              replace k7 := k7.of hn
              replace k8 := k8.of hn
              replace k11 := k11.of hn
              replace HB5 := Lib.hid (HB5.out.of hn)
              replace HB6 := Lib.hid (HB6.out.of hn)
              replace HB7 := Lib.hid (HB7.out.of hn)
              replace hb0 := hb0.trans (hn.mono hb0.size)
              clear hn
              have HB8 := Lib.hid hbm
              have HP8 := Lib.hid hlm
              clear hbm hlm
              go_wp2_with fail
              have HIn : TsI ax ay bx b_y cx cy n 1 pn8 PF8 ∧ 4 - Int.toNat 1 ≤ ((4 - Int.toNat (1)) : Nat) := by
                first
                  | (exact ⟨TsI.same0 HT.out (tsG_zero hz4), by have := HI1.out.2; omega⟩)
                  | (exact ⟨TsI.put0 HT.out HP8.out (tsG_in hz4 (gN_pos hz3 Hr1.out) (gN_pos hz3 Hr2.out) Hr5.out hz6 Hr7.out hz8), by have := HI1.out.2; omega⟩)
                  | (exact ⟨TsI.same0 HT.out (tsG_hi hz4 (gN_pos hz3 Hr1.out) (gN_pos hz3 Hr2.out) Hr7.out hz8), by have := HI1.out.2; omega⟩)
                  | (exact ⟨TsI.same0 HT.out (tsG_lo hz4 (gN_pos hz3 Hr1.out) Hr5.out hz6), by have := HI1.out.2; omega⟩)
                  | (exact ⟨TsI.same1 HT.out (tsG_zero hz4), by have := HI1.out.2; omega⟩)
              go_roundg (4 - Int.toNat (1))
              case measure =>
                have q_ := HI1.out.2
                omega
              case rel => exact ⟨1, pg8, pc8, pn8, PF8, rfl, rfl, Lib.hid HIn, k5, k6, k7, HB8.out, hb0⟩
        · have nz4 : (wrap64 (bx - ax)) = 0 := by simpa using hz4
          have c6_0 : U9.cell? ⟨(U5.heap.size + 1 + 1), 0, none⟩ = some (.int .i64 ((wrap64 (bx - ax)))) := k6.cell 0
          have l6 := k6.lt
          have l6_0 : U5.heap.size < U9.heap.size := by have := k6.lt; omega
          have l6_1 : U5.heap.size + 1 < U9.heap.size := by have := k6.lt; omega
          go_wp2_with fail
          clear c6_0 l6 l6_0 l6_1
          first | refine k_world ?_
          intro V14 hV14
          have D17 := Lib.hid k5.lt
          have D18 := Lib.hid k6.lt
          have D19 := Lib.hid k7.lt
          have D20 := Lib.hid k8.lt
          have D21 := Lib.hid hb0.size
          have hn : Below U9.heap.size U9 V14 := by rw [hV14]; exact below_a1 _ _
          have nk5 := k5.of hn
          have nk6 := k6.of hn
          have nk7 := k7.of hn
          have nk8 := k8.of hn
          replace HB5 := Lib.hid (HB5.out.of hn)
          replace HB6 := Lib.hid (HB6.out.of hn)
          replace HB7 := Lib.hid (HB7.out.of hn)
          have nhb0 := hb0.trans (hn.mono hb0.size)
          clear hn
          have k12 : Blk V14 U9.heap.size #[.bool bn7, .slice ba7 bl7 bc7] 28 := by rw [hV14]; exact (Blk.new _ _ _)
          clear k5 k6 k7 k8
          clear hb0
          clear hV14
          have k5 := nk5
          clear nk5
          have k6 := nk6
          clear nk6
          have k7 := nk7
          clear nk7
          have k8 := nk8
          clear nk8
          have hb0 := nhb0
          clear nhb0
          have HIn : TsI ax ay bx b_y cx cy n 1 tn TF ∧ 4 - Int.toNat 1 ≤ ((4 - Int.toNat (1)) : Nat) := by
            first
              | (exact ⟨TsI.same0 HT.out (tsG_zero hz4), by have := HI1.out.2; omega⟩)
              | (exact ⟨TsI.same1 HT.out (tsG_zero hz4), by have := HI1.out.2; omega⟩)
          have hq1 : (wrap64 (bx - ax)) = 0 := by simpa using hz4
          clear hz4
          simp only [hq1] at *
          go_roundg (4 - Int.toNat (1))
          case measure =>
            have q_ := HI1.out.2
            omega
          case rel => exact ⟨1, tg, tc, tn, TF, rfl, rfl, Lib.hid HIn, k5, k6, k7, HB5.out, hb0⟩
      · have c6_0 : U9.cell? ⟨(U5.heap.size + 1 + 1), 0, none⟩ = some (.int .i64 ((wrap64 (bx - ax)))) := k6.cell 0
        have l6 := k6.lt
        have l6_0 : U5.heap.size < U9.heap.size := by have := k6.lt; omega
        have l6_1 : U5.heap.size + 1 < U9.heap.size := by have := k6.lt; omega
        have c8_0 : U9.cell? ⟨q8, 0, none⟩ = some (.bool bn6) := k8.cell 0
        have c8_1 : U9.cell? ⟨q8, 1, none⟩ = some (.slice ba6 bl6 bc6) := k8.cell 1
        have l8 := k8.lt
        go_wp2_with fail
        clear c6_0 l6 l6_0 l6_1 c8_0 c8_1 l8
        first | refine calls_w ?_ | refine name_world ?_ | refine list_world ?_ | refine post_world ?_
        intro V15 hV15
        have D22 := Lib.hid k5.lt
        have D23 := Lib.hid k6.lt
        have D24 := Lib.hid k7.lt
        have D25 := Lib.hid k8.lt
        have D26 := Lib.hid hb0.size
        have hn : Below U9.heap.size U9 V15 := by rw [hV15]; exact below_a1 _ _
        have nk5 := k5.of hn
        have nk6 := k6.of hn
        have nk7 := k7.of hn
        have nk8 := k8.of hn
        replace HB5 := Lib.hid (HB5.out.of hn)
        replace HB6 := Lib.hid (HB6.out.of hn)
        replace HB7 := Lib.hid (HB7.out.of hn)
        have nhb0 := hb0.trans (hn.mono hb0.size)
        clear hn
        have k13 : Blk V15 U9.heap.size #[.bool bn7, .slice ba7 bl7 bc7] 28 := by rw [hV15]; exact (Blk.new _ _ _)
        clear k5 k6 k7 k8
        clear hb0
        clear hV15
        have k5 := nk5
        clear nk5
        have k6 := nk6
        clear nk6
        have k7 := nk7
        clear nk7
        have k8 := nk8
        clear nk8
        have hb0 := nhb0
        clear nhb0
        obtain ⟨r9, hr9⟩ : ∃ o_o : Int, -r1 = o_o := ⟨_, rfl⟩
        have Hr9 := Lib.hid hr9
        clear hr9
        refine (bigMinus_v (.agg #[.bool bn6, .slice ba6 bl6 bc6]) r1 r9 5 Hr9.out _ HB6.out).mono ?_
        rintro e U16 ⟨v_, rfl, hbm, hn⟩
        replace k5 := k5.of hn
        replace k6 := k6.of hn
        replace k7 := k7.of hn
        replace k8 := k8.of hn
        replace k13 := k13.of hn
        replace HB5 := Lib.hid (HB5.out.of hn)
        replace HB6 := Lib.hid (HB6.out.of hn)
        replace HB7 := Lib.hid (HB7.out.of hn)
        replace hb0 := hb0.trans (hn.mono hb0.size)
        clear hn
        have HB9 := Lib.hid hbm
        have hvm := hbm.shape
        clear hbm
        obtain ⟨bn9, ba9, bl9, bc9, rfl⟩ := hvm
        have c8_0 : U16.cell? ⟨q8, 0, none⟩ = some (.bool bn6) := k8.cell 0
        have c8_1 : U16.cell? ⟨q8, 1, none⟩ = some (.slice ba6 bl6 bc6) := k8.cell 1
        have f8_0 := k8.free 0
        have f8_1 := k8.free 1
        have l8 := k8.lt
        have c13_0 : U16.cell? ⟨U9.heap.size, 0, none⟩ = some (.bool bn7) := k13.cell 0
        have c13_1 : U16.cell? ⟨U9.heap.size, 1, none⟩ = some (.slice ba7 bl7 bc7) := k13.cell 1
        have l13 := k13.lt
        have p13_8 : U9.heap.size ≠ q8 := (by have := D25.out; omega)
        go_wp2_with fail
        clear c8_0 c8_1 f8_0 f8_1 l8 c13_0 c13_1 l13 p13_8
        first | refine calls_w ?_ | refine name_world ?_ | refine list_world ?_ | refine post_world ?_
        intro V17 hV17
        have D27 := Lib.hid k5.lt
        have D28 := Lib.hid k6.lt
        have D29 := Lib.hid k7.lt
        have D30 := Lib.hid k8.lt
        have D31 := Lib.hid k13.lt
        have D32 := Lib.hid hb0.size
        have nk5 : Blk V17 (U5.heap.size + 1) #[.int .i64 ax, .int .i64 ax, .int .i64 ay, .int .i64 ay] 162 := by rw [hV17]; exact (blk_setL k5 (by have := D2.out; have := D6.out; omega) 0 [.bool bn9, .slice ba9 bl9 bc9])
        have nk6 : Blk V17 (U5.heap.size + 1 + 1) #[.int .i64 ((wrap64 (bx - ax))), .int .i64 ((wrap64 (bx - ax))), .int .i64 ((wrap64 (b_y - ay))), .int .i64 ((wrap64 (b_y - ay)))] 162 := by rw [hV17]; exact (blk_setL k6 (by have := D3.out; have := D6.out; omega) 0 [.bool bn9, .slice ba9 bl9 bc9])
        have nk7 : Blk V17 (U5.heap.size + 1 + 1 + 1) #[.int .i64 ((wrap64 ((wrap64 ((wrap64 (2 * cx)) * n)) - n))), .int .i64 ((wrap64 ((wrap64 ((wrap64 (2 * cx)) * n)) + n))), .int .i64 ((wrap64 ((wrap64 ((wrap64 (2 * cy)) * n)) - n))), .int .i64 ((wrap64 ((wrap64 ((wrap64 (2 * cy)) * n)) + n)))] 162 := by rw [hV17]; exact (blk_setL k7 (by have := D4.out; have := D6.out; omega) 0 [.bool bn9, .slice ba9 bl9 bc9])
        have nk8 : Blk V17 q8 #[.bool bn9, .slice ba9 bl9 bc9] 28 := by rw [hV17]; exact (blk_full _ [.bool bn9, .slice ba9 bl9 bc9] k8 rfl)
        have nk13 : Blk V17 U9.heap.size #[.bool bn7, .slice ba7 bl7 bc7] 28 := by rw [hV17]; exact (blk_setL k13 (by have := D25.out; omega) 0 [.bool bn9, .slice ba9 bl9 bc9])
        have nhb0 : Below w.heap.size w V17 := by rw [hV17]; exact (blw_setL hb0 (by have := D5.out; have := D6.out; omega) 0 [.bool bn9, .slice ba9 bl9 bc9])
        replace HB5 : Hid (RS V17 tg tc tn TF) := Lib.hid (by rw [hV17]; exact (rs_setL HB5.out k8 (by decide) (Blk.cell k8 0) (fun _ h => by cases h) 0 [.bool bn9, .slice ba9 bl9 bc9]))
        replace HB6 : Hid (Big V17 (.agg #[.bool bn6, .slice ba6 bl6 bc6]) r1 5) := Lib.hid (by rw [hV17]; exact (big_setL HB6.out (Blk.cell k8 0) (fun _ h => by cases h) 0 [.bool bn9, .slice ba9 bl9 bc9]))
        replace HB7 : Hid (Big V17 (.agg #[.bool bn7, .slice ba7 bl7 bc7]) r2 5) := Lib.hid (by rw [hV17]; exact (big_setL HB7.out (Blk.cell k8 0) (fun _ h => by cases h) 0 [.bool bn9, .slice ba9 bl9 bc9]))
        replace HB9 : Hid (Big V17 (.agg #[.bool bn9, .slice ba9 bl9 bc9]) r9 5) := Lib.hid (by rw [hV17]; exact (big_setL HB9.out (Blk.cell k8 0) (fun _ h => by cases h) 0 [.bool bn9, .slice ba9 bl9 bc9]))
        clear k5 k6 k7 k8 k13
        clear hb0
        clear hV17
        have k5 := nk5
        clear nk5
        have k6 := nk6
        clear nk6
        have k7 := nk7
        clear nk7
        have k8 := nk8
        clear nk8
        have k13 := nk13
        clear nk13
        have hb0 := nhb0
        clear nhb0
        obtain ⟨r10, hr10⟩ : ∃ o_o : Int, -r2 = o_o := ⟨_, rfl⟩
        have Hr10 := Lib.hid hr10
        clear hr10
        refine (bigMinus_v (.agg #[.bool bn7, .slice ba7 bl7 bc7]) r2 r10 5 Hr10.out _ HB7.out).mono ?_
        rintro e U18 ⟨v_, rfl, hbm, hn⟩
        replace k5 := k5.of hn
        replace k6 := k6.of hn
        replace k7 := k7.of hn
        replace k8 := k8.of hn
        replace k13 := k13.of hn
        replace HB5 := Lib.hid (HB5.out.of hn)
        replace HB6 := Lib.hid (HB6.out.of hn)
        replace HB7 := Lib.hid (HB7.out.of hn)
        replace HB9 := Lib.hid (HB9.out.of hn)
        replace hb0 := hb0.trans (hn.mono hb0.size)
        clear hn
        have HB10 := Lib.hid hbm
        have hvm := hbm.shape
        clear hbm
        obtain ⟨bn10, ba10, bl10, bc10, rfl⟩ := hvm
        obtain ⟨z11, hz11⟩ : ∃ o_o : Bool, ((wrap64 (bx - ax)) == 0) = o_o := ⟨_, rfl⟩
        cases z11
        · have nz11 : ¬ (wrap64 (bx - ax)) = 0 := by simpa using hz11
          have c6_0 : U18.cell? ⟨(U5.heap.size + 1 + 1), 0, none⟩ = some (.int .i64 ((wrap64 (bx - ax)))) := k6.cell 0
          have l6 := k6.lt
          have c8_0 : U18.cell? ⟨q8, 0, none⟩ = some (.bool bn9) := k8.cell 0
          have c8_1 : U18.cell? ⟨q8, 1, none⟩ = some (.slice ba9 bl9 bc9) := k8.cell 1
          have l8 := k8.lt
          have c13_0 : U18.cell? ⟨U9.heap.size, 0, none⟩ = some (.bool bn7) := k13.cell 0
          have c13_1 : U18.cell? ⟨U9.heap.size, 1, none⟩ = some (.slice ba7 bl7 bc7) := k13.cell 1
          have f13_0 := k13.free 0
          have f13_1 := k13.free 1
          have l13 := k13.lt
          have p6_13 : (U5.heap.size + 1 + 1) ≠ U9.heap.size := (by have := D23.out; omega)
          have p8_13 : q8 ≠ U9.heap.size := (by have := D25.out; omega)
          go_wp2_with fail
          clear c6_0 l6 c8_0 c8_1 l8 c13_0 c13_1 f13_0 f13_1 l13 p6_13 p8_13
          first | refine calls_w ?_ | refine name_world ?_ | refine list_world ?_ | refine post_world ?_
          intro V19 hV19
          have D33 := Lib.hid k5.lt
          have D34 := Lib.hid k6.lt
          have D35 := Lib.hid k7.lt
          have D36 := Lib.hid k8.lt
          have D37 := Lib.hid k13.lt
          have D38 := Lib.hid hb0.size
          have nk5 : Blk V19 (U5.heap.size + 1) #[.int .i64 ax, .int .i64 ax, .int .i64 ay, .int .i64 ay] 162 := by rw [hV19]; exact (blk_setL k5 (by have := D22.out; omega) 0 [.bool bn10, .slice ba10 bl10 bc10])
          have nk6 : Blk V19 (U5.heap.size + 1 + 1) #[.int .i64 ((wrap64 (bx - ax))), .int .i64 ((wrap64 (bx - ax))), .int .i64 ((wrap64 (b_y - ay))), .int .i64 ((wrap64 (b_y - ay)))] 162 := by rw [hV19]; exact (blk_setL k6 (by have := D23.out; omega) 0 [.bool bn10, .slice ba10 bl10 bc10])
          have nk7 : Blk V19 (U5.heap.size + 1 + 1 + 1) #[.int .i64 ((wrap64 ((wrap64 ((wrap64 (2 * cx)) * n)) - n))), .int .i64 ((wrap64 ((wrap64 ((wrap64 (2 * cx)) * n)) + n))), .int .i64 ((wrap64 ((wrap64 ((wrap64 (2 * cy)) * n)) - n))), .int .i64 ((wrap64 ((wrap64 ((wrap64 (2 * cy)) * n)) + n)))] 162 := by rw [hV19]; exact (blk_setL k7 (by have := D24.out; omega) 0 [.bool bn10, .slice ba10 bl10 bc10])
          have nk8 : Blk V19 q8 #[.bool bn9, .slice ba9 bl9 bc9] 28 := by rw [hV19]; exact (blk_setL k8 (by have := D25.out; omega) 0 [.bool bn10, .slice ba10 bl10 bc10])
          have nk13 : Blk V19 U9.heap.size #[.bool bn10, .slice ba10 bl10 bc10] 28 := by rw [hV19]; exact (blk_full _ [.bool bn10, .slice ba10 bl10 bc10] k13 rfl)
          have nhb0 : Below w.heap.size w V19 := by rw [hV19]; exact (blw_setL hb0 (by have := D26.out; omega) 0 [.bool bn10, .slice ba10 bl10 bc10])
          replace HB5 : Hid (RS V19 tg tc tn TF) := Lib.hid (by rw [hV19]; exact (rs_setL HB5.out k13 (by decide) (Blk.cell k13 0) (fun _ h => by cases h) 0 [.bool bn10, .slice ba10 bl10 bc10]))
          replace HB6 : Hid (Big V19 (.agg #[.bool bn6, .slice ba6 bl6 bc6]) r1 5) := Lib.hid (by rw [hV19]; exact (big_setL HB6.out (Blk.cell k13 0) (fun _ h => by cases h) 0 [.bool bn10, .slice ba10 bl10 bc10]))
          replace HB7 : Hid (Big V19 (.agg #[.bool bn7, .slice ba7 bl7 bc7]) r2 5) := Lib.hid (by rw [hV19]; exact (big_setL HB7.out (Blk.cell k13 0) (fun _ h => by cases h) 0 [.bool bn10, .slice ba10 bl10 bc10]))
          replace HB9 : Hid (Big V19 (.agg #[.bool bn9, .slice ba9 bl9 bc9]) r9 5) := Lib.hid (by rw [hV19]; exact (big_setL HB9.out (Blk.cell k13 0) (fun _ h => by cases h) 0 [.bool bn10, .slice ba10 bl10 bc10]))
          replace HB10 : Hid (Big V19 (.agg #[.bool bn10, .slice ba10 bl10 bc10]) r10 5) := Lib.hid (by rw [hV19]; exact (big_setL HB10.out (Blk.cell k13 0) (fun _ h => by cases h) 0 [.bool bn10, .slice ba10 bl10 bc10]))
          clear k5 k6 k7 k8 k13
          clear hb0
          clear hV19
          have k5 := nk5
          clear nk5
          have k6 := nk6
          clear nk6
          have k7 := nk7
          clear nk7
          have k8 := nk8
          clear nk8
          have k13 := nk13
          clear nk13
          have hb0 := nhb0
          clear nhb0
          obtain ⟨r12, hr12⟩ : ∃ o_o : Int, r9.sign = o_o := ⟨_, rfl⟩
          have Hr12 := Lib.hid hr12
          clear hr12
          refine (bigSign_v (.agg #[.bool bn9, .slice ba9 bl9 bc9]) r9 5 r12 Hr12.out _ HB9.out).mono ?_
          rintro e U20 ⟨rfl, hn⟩
          replace k5 := k5.of hn
          replace k6 := k6.of hn
          replace k7 := k7.of hn
          replace k8 := k8.of hn
          replace k13 := k13.of hn
          replace HB5 := Lib.hid (HB5.out.of hn)
          replace HB6 := Lib.hid (HB6.out.of hn)
          replace HB7 := Lib.hid (HB7.out.of hn)
          replace HB9 := Lib.hid (HB9.out.of hn)
          replace HB10 := Lib.hid (HB10.out.of hn)
          replace hb0 := hb0.trans (hn.mono hb0.size)
          clear hn
          obtain ⟨z13, hz13⟩ : ∃ o_o : Bool, decide (0 ≤ r12) = o_o := ⟨_, rfl⟩
          cases z13
          · go_wp2_with fail
            have HIn : TsI ax ay bx b_y cx cy n 1 tn TF ∧ 4 - Int.toNat 1 ≤ ((4 - Int.toNat (1)) : Nat) := by
              first
                | (exact ⟨TsI.same0 HT.out (tsG_zero hz11), by have := HI1.out.2; omega⟩)
                | (exact ⟨TsI.same0 HT.out (tsG_lo hz11 (gN_neg hz3 Hr1.out Hr9.out) Hr12.out hz13), by have := HI1.out.2; omega⟩)
                | (exact ⟨TsI.same1 HT.out (tsG_zero hz11), by have := HI1.out.2; omega⟩)
            go_roundg (4 - Int.toNat (1))
            case measure =>
              have q_ := HI1.out.2
              omega
            case rel => exact ⟨1, tg, tc, tn, TF, rfl, rfl, Lib.hid HIn, k5, k6, k7, HB5.out, hb0⟩
          · have c8_0 : U20.cell? ⟨q8, 0, none⟩ = some (.bool bn9) := k8.cell 0
            have c8_1 : U20.cell? ⟨q8, 1, none⟩ = some (.slice ba9 bl9 bc9) := k8.cell 1
            have l8 := k8.lt
            have c13_0 : U20.cell? ⟨U9.heap.size, 0, none⟩ = some (.bool bn10) := k13.cell 0
            have c13_1 : U20.cell? ⟨U9.heap.size, 1, none⟩ = some (.slice ba10 bl10 bc10) := k13.cell 1
            have l13 := k13.lt
            go_wp2_with fail
            clear c8_0 c8_1 l8 c13_0 c13_1 l13
            obtain ⟨r14, hr14⟩ : ∃ o_o : Int, cmpI r9 r10 = o_o := ⟨_, rfl⟩
            have Hr14 := Lib.hid hr14
            clear hr14
            refine (bigCmp_v (.agg #[.bool bn9, .slice ba9 bl9 bc9]) (.agg #[.bool bn10, .slice ba10 bl10 bc10]) r9 r10 5 5 r14 Hr14.out _ HB9.out HB10.out).mono ?_
            rintro e U21 ⟨rfl, hn⟩
            replace k5 := k5.of hn
            replace k6 := k6.of hn
            replace k7 := k7.of hn
            replace k8 := k8.of hn
            replace k13 := k13.of hn
            replace HB5 := Lib.hid (HB5.out.of hn)
            replace HB6 := Lib.hid (HB6.out.of hn)
            replace HB7 := Lib.hid (HB7.out.of hn)
            replace HB9 := Lib.hid (HB9.out.of hn)
            replace HB10 := Lib.hid (HB10.out.of hn)
            replace hb0 := hb0.trans (hn.mono hb0.size)
            clear hn
            obtain ⟨z15, hz15⟩ : ∃ o_o : Bool, decide (r14 ≤ 0) = o_o := ⟨_, rfl⟩
            cases z15
            · go_wp2_with fail
              have HIn : TsI ax ay bx b_y cx cy n 1 tn TF ∧ 4 - Int.toNat 1 ≤ ((4 - Int.toNat (1)) : Nat) := by
                first
                  | (exact ⟨TsI.same0 HT.out (tsG_zero hz11), by have := HI1.out.2; omega⟩)
                  | (exact ⟨TsI.same0 HT.out (tsG_hi hz11 (gN_neg hz3 Hr1.out Hr9.out) (gN_neg hz3 Hr2.out Hr10.out) Hr14.out hz15), by have := HI1.out.2; omega⟩)
                  | (exact ⟨TsI.same0 HT.out (tsG_lo hz11 (gN_neg hz3 Hr1.out Hr9.out) Hr12.out hz13), by have := HI1.out.2; omega⟩)
                  | (exact ⟨TsI.same1 HT.out (tsG_zero hz11), by have := HI1.out.2; omega⟩)
              go_roundg (4 - Int.toNat (1))
              case measure =>
                have q_ := HI1.out.2
                omega
              case rel => exact ⟨1, tg, tc, tn, TF, rfl, rfl, Lib.hid HIn, k5, k6, k7, HB5.out, hb0⟩
            · have c8_0 : U21.cell? ⟨q8, 0, none⟩ = some (.bool bn9) := k8.cell 0
              have c8_1 : U21.cell? ⟨q8, 1, none⟩ = some (.slice ba9 bl9 bc9) := k8.cell 1
              have l8 := k8.lt
              have c13_0 : U21.cell? ⟨U9.heap.size, 0, none⟩ = some (.bool bn10) := k13.cell 0
              have c13_1 : U21.cell? ⟨U9.heap.size, 1, none⟩ = some (.slice ba10 bl10 bc10) := k13.cell 1
              have l13 := k13.lt
              go_wp2_with fail
              clear c8_0 c8_1 l8 c13_0 c13_1 l13
              refine (put_g r9 r10 tg tc tn TF bn9 ba9 bl9 bc9 bn10 ba10 bl10 bc10 _ HB5.out (HB9.out.mono (by decide)) (HB10.out.mono (by decide)) (Lib.hid (by have := HT.out.2; omega))).mono ?_
              rintro e U22 ⟨pg11, pc11, pn11, PF11, rfl, hbm, hlm, hn⟩
              replace k5 := k5.of hn
              replace k6 := k6.of hn
              replace k7 := k7.of hn
              replace k8 := k8.of hn
              replace k13 := k13.of hn
              replace HB5 := Lib.hid (HB5.out.of hn)
              replace HB6 := Lib.hid (HB6.out.of hn)
              replace HB7 := Lib.hid (HB7.out.of hn)
              replace HB9 := Lib.hid (HB9.out.of hn)
              replace HB10 := Lib.hid (HB10.out.of hn)
              replace hb0 := hb0.trans (hn.mono hb0.size)
              clear hn
              have HB11 := Lib.hid hbm
              have HP11 := Lib.hid hlm
              clear hbm hlm
              go_wp2_with fail
              have HIn : TsI ax ay bx b_y cx cy n 1 pn11 PF11 ∧ 4 - Int.toNat 1 ≤ ((4 - Int.toNat (1)) : Nat) := by
                first
                  | (exact ⟨TsI.same0 HT.out (tsG_zero hz11), by have := HI1.out.2; omega⟩)
                  | (exact ⟨TsI.put0 HT.out HP11.out (tsG_in hz11 (gN_neg hz3 Hr1.out Hr9.out) (gN_neg hz3 Hr2.out Hr10.out) Hr12.out hz13 Hr14.out hz15), by have := HI1.out.2; omega⟩)
                  | (exact ⟨TsI.same0 HT.out (tsG_hi hz11 (gN_neg hz3 Hr1.out Hr9.out) (gN_neg hz3 Hr2.out Hr10.out) Hr14.out hz15), by have := HI1.out.2; omega⟩)
                  | (exact ⟨TsI.same0 HT.out (tsG_lo hz11 (gN_neg hz3 Hr1.out Hr9.out) Hr12.out hz13), by have := HI1.out.2; omega⟩)
                  | (exact ⟨TsI.same1 HT.out (tsG_zero hz11), by have := HI1.out.2; omega⟩)
              go_roundg (4 - Int.toNat (1))
              case measure =>
                have q_ := HI1.out.2
                omega
              case rel => exact ⟨1, pg11, pc11, pn11, PF11, rfl, rfl, Lib.hid HIn, k5, k6, k7, HB11.out, hb0⟩
        · have nz11 : (wrap64 (bx - ax)) = 0 := by simpa using hz11
          exact absurd (of_decide_eq_true hz3) (by have e_ : (wrap64 (bx - ax)) = 0 := (by simpa using hz11); rw [e_]; decide)
    · have HT := Lib.hid hl
      clear hl
      go_wp2_with fail
      obtain ⟨r16, hr16⟩ : ∃ o_o : Int, (wrap64 ((wrap64 ((wrap64 ((wrap64 (2 * cx)) * n)) + n)) - (wrap64 (2 * ax)))) = o_o := ⟨_, rfl⟩
      have Hr16 := Lib.hid hr16
      clear hr16
      have c5_1 : W1_.cell? ⟨(U5.heap.size + 1), 1, none⟩ = some (.int .i64 ax) := k5.cell 1
      have l5 := k5.lt
      have c7_1 : W1_.cell? ⟨(U5.heap.size + 1 + 1 + 1), 1, none⟩ = some (.int .i64 ((wrap64 ((wrap64 ((wrap64 (2 * cx)) * n)) + n)))) := k7.cell 1
      have l7 := k7.lt
      have Kk5 := Lib.hid k5
      clear k5
      have Kk6 := Lib.hid k6
      clear k6
      have Kk7 := Lib.hid k7
      clear k7
      refine wp_region_float1 10 9 [(true, 0), (true, 1), (true, 2), (true, 3), (true, 4), (true, 5), (true, 6), (true, 7), (false, 8)] (by kernel_rfl) (by kernel_rfl) (fun _ _ d _ _ => by cases d <;> exact Iff.rfl) rfl rfl rfl alPcE_0 ?_
      have hb : Below W1_.heap.size W1_ W1_.drew := (Below.refl _ _).drew
      iterate 8
        refine wpF_take rfl rfl ?_
        go_big_quiet_step (rfl)
        refine wpQuiet_nil ?_
      refine wpF_do rfl ?_
      intro w1 hg K hK
      replace hb := hb.trans (hg.mono hb.size)
      try replace HB12 := Lib.hid (HB12.out.of hg)
      clear hg
      go_wp2_with ((go_at_call 66; (with_reducible refine (bigOf_v (wrap64 ((wrap64 ((wrap64 ((wrap64 (2 * cx)) * n)) + n)) - (wrap64 (2 * ax)))) r16 Hr16.out (wrap64_in _) _).mono ?_); rintro e w2 ⟨v_, rfl, hbm, hn⟩; have HB12 := Lib.hid hbm; have hvm := hbm.shape; clear hbm; obtain ⟨bn12, ba12, bl12, bc12, rfl⟩ := hvm))
      refine hK.out _ _ hn ?_
      replace hb := hb.trans (hn.mono hb.size)
      clear hK K
      clear hn
      refine wpF_nil ?_
      clear hb
      intro w1 hg hb b1 lb1 nb1
      replace HB12 := Lib.hid (HB12.out.of hg)
      clear hg
      simp only [Act.put, ptrTo, List.setIfInBounds_toArray, List.set_cons_succ, List.set_cons_zero]
      simp only [List.drop_succ_cons, List.drop_zero]
      clear c5_1 l5 c7_1 l7
      first | refine calls_w ?_ | refine name_world ?_ | refine list_world ?_ | refine post_world ?_
      intro U23 hU23
      subst hU23
      have D39 := Lib.hid Kk5.out.lt
      have D40 := Lib.hid Kk6.out.lt
      have D41 := Lib.hid Kk7.out.lt
      have D42 := Lib.hid hb0.size
      have k14 : Blk U23 b1 #[.bool false, .slice none 0 0] 28 := nb1
      have k5 := Kk5.out.of hb
      clear Kk5
      have k6 := Kk6.out.of hb
      clear Kk6
      have k7 := Kk7.out.of hb
      clear Kk7
      have D43 := Lib.hid lb1
      clear nb1 lb1
      replace HB5 := Lib.hid (HB5.out.of hb)
      replace hb0 := hb0.trans (hb.mono hb0.size)
      clear hb
      generalize b1 = q14 at *
      have c6_1 : U23.cell? ⟨(U5.heap.size + 1 + 1), 1, none⟩ = some (.int .i64 ((wrap64 (bx - ax)))) := k6.cell 1
      have l6 := k6.lt
      have c14_0 : U23.cell? ⟨q14, 0, none⟩ = some (.bool false) := k14.cell 0
      have c14_1 : U23.cell? ⟨q14, 1, none⟩ = some (.slice none 0 0) := k14.cell 1
      have f14_0 := k14.free 0
      have f14_1 := k14.free 1
      have l14 := k14.lt
      have p6_14 : (U5.heap.size + 1 + 1) ≠ q14 := (by have := D40.out; have := D43.out; omega)
      go_wp2_with fail
      clear c6_1 l6 c14_0 c14_1 f14_0 f14_1 l14 p6_14
      first | refine calls_w ?_ | refine name_world ?_ | refine list_world ?_ | refine post_world ?_
      intro V24 hV24
      have D44 := Lib.hid k5.lt
      have D45 := Lib.hid k6.lt
      have D46 := Lib.hid k7.lt
      have D47 := Lib.hid k14.lt
      have D48 := Lib.hid hb0.size
      have nk5 : Blk V24 (U5.heap.size + 1) #[.int .i64 ax, .int .i64 ax, .int .i64 ay, .int .i64 ay] 162 := by rw [hV24]; exact (blk_setL k5 (by have := D39.out; have := D43.out; omega) 0 [.bool bn12, .slice ba12 bl12 bc12])
      have nk6 : Blk V24 (U5.heap.size + 1 + 1) #[.int .i64 ((wrap64 (bx - ax))), .int .i64 ((wrap64 (bx - ax))), .int .i64 ((wrap64 (b_y - ay))), .int .i64 ((wrap64 (b_y - ay)))] 162 := by rw [hV24]; exact (blk_setL k6 (by have := D40.out; have := D43.out; omega) 0 [.bool bn12, .slice ba12 bl12 bc12])
      have nk7 : Blk V24 (U5.heap.size + 1 + 1 + 1) #[.int .i64 ((wrap64 ((wrap64 ((wrap64 (2 * cx)) * n)) - n))), .int .i64 ((wrap64 ((wrap64 ((wrap64 (2 * cx)) * n)) + n))), .int .i64 ((wrap64 ((wrap64 ((wrap64 (2 * cy)) * n)) - n))), .int .i64 ((wrap64 ((wrap64 ((wrap64 (2 * cy)) * n)) + n)))] 162 := by rw [hV24]; exact (blk_setL k7 (by have := D41.out; have := D43.out; omega) 0 [.bool bn12, .slice ba12 bl12 bc12])
      have nk14 : Blk V24 q14 #[.bool bn12, .slice ba12 bl12 bc12] 28 := by rw [hV24]; exact (blk_full _ [.bool bn12, .slice ba12 bl12 bc12] k14 rfl)
      have nhb0 : Below w.heap.size w V24 := by rw [hV24]; exact (blw_setL hb0 (by have := D42.out; have := D43.out; omega) 0 [.bool bn12, .slice ba12 bl12 bc12])
      replace HB5 : Hid (RS V24 tg tc tn TF) := Lib.hid (by rw [hV24]; exact (rs_setL HB5.out k14 (by decide) (Blk.cell k14 0) (fun _ h => by cases h) 0 [.bool bn12, .slice ba12 bl12 bc12]))
      replace HB12 : Hid (Big V24 (.agg #[.bool bn12, .slice ba12 bl12 bc12]) r16 5) := Lib.hid (by rw [hV24]; exact (big_setL HB12.out (Blk.cell k14 0) (fun _ h => by cases h) 0 [.bool bn12, .slice ba12 bl12 bc12]))
      clear k5 k6 k7 k14
      clear hb0
      clear hV24
      have k5 := nk5
      clear nk5
      have k6 := nk6
      clear nk6
      have k7 := nk7
      clear nk7
      have k14 := nk14
      clear nk14
      have hb0 := nhb0
      clear nhb0
      obtain ⟨r17, hr17⟩ : ∃ o_o : Int, (wrap64 (2 * (wrap64 (bx - ax)))) = o_o := ⟨_, rfl⟩
      have Hr17 := Lib.hid hr17
      clear hr17
      refine (bigOf_v (wrap64 (2 * (wrap64 (bx - ax)))) r17 Hr17.out (wrap64_in _) _).mono ?_
      rintro e U25 ⟨v_, rfl, hbm, hn⟩
      replace k5 := k5.of hn
      replace k6 := k6.of hn
      replace k7 := k7.of hn
      replace k14 := k14.of hn
      replace HB5 := Lib.hid (HB5.out.of hn)
      replace HB12 := Lib.hid (HB12.out.of hn)
      replace hb0 := hb0.trans (hn.mono hb0.size)
      clear hn
      have HB13 := Lib.hid hbm
      have hvm := hbm.shape
      clear hbm
      obtain ⟨bn13, ba13, bl13, bc13, rfl⟩ := hvm
      obtain ⟨z18, hz18⟩ : ∃ o_o : Bool, decide ((wrap64 (bx - ax)) < 0) = o_o := ⟨_, rfl⟩
      cases z18
      · obtain ⟨z19, hz19⟩ : ∃ o_o : Bool, ((wrap64 (bx - ax)) == 0) = o_o := ⟨_, rfl⟩
        cases z19
        · have nz19 : ¬ (wrap64 (bx - ax)) = 0 := by simpa using hz19
          have c6_1 : U25.cell? ⟨(U5.heap.size + 1 + 1), 1, none⟩ = some (.int .i64 ((wrap64 (bx - ax)))) := k6.cell 1
          have l6 := k6.lt
          have l6_0 : U5.heap.size < U25.heap.size := by have := k6.lt; omega
          have l6_1 : U5.heap.size + 1 < U25.heap.size := by have := k6.lt; omega
          have c14_0 : U25.cell? ⟨q14, 0, none⟩ = some (.bool bn12) := k14.cell 0
          have c14_1 : U25.cell? ⟨q14, 1, none⟩ = some (.slice ba12 bl12 bc12) := k14.cell 1
          have l14 := k14.lt
          go_wp2_with fail
          clear c6_1 l6 l6_0 l6_1 c14_0 c14_1 l14
          first | refine calls_w ?_ | refine name_world ?_ | refine list_world ?_ | refine post_world ?_
          intro V26 hV26
          have D49 := Lib.hid k5.lt
          have D50 := Lib.hid k6.lt
          have D51 := Lib.hid k7.lt
          have D52 := Lib.hid k14.lt
          have D53 := Lib.hid hb0.size
          have hn : Below U25.heap.size U25 V26 := by rw [hV26]; exact below_a1 _ _
          have nk5 := k5.of hn
          have nk6 := k6.of hn
          have nk7 := k7.of hn
          have nk14 := k14.of hn
          replace HB5 := Lib.hid (HB5.out.of hn)
          replace HB12 := Lib.hid (HB12.out.of hn)
          replace HB13 := Lib.hid (HB13.out.of hn)
          have nhb0 := hb0.trans (hn.mono hb0.size)
          clear hn
          have k17 : Blk V26 U25.heap.size #[.bool bn13, .slice ba13 bl13 bc13] 28 := by rw [hV26]; exact (Blk.new _ _ _)
          clear k5 k6 k7 k14
          clear hb0
          clear hV26
          have k5 := nk5
          clear nk5
          have k6 := nk6
          clear nk6
          have k7 := nk7
          clear nk7
          have k14 := nk14
          clear nk14
          have hb0 := nhb0
          clear nhb0
          obtain ⟨r20, hr20⟩ : ∃ o_o : Int, r16.sign = o_o := ⟨_, rfl⟩
          have Hr20 := Lib.hid hr20
          clear hr20
          refine (bigSign_v (.agg #[.bool bn12, .slice ba12 bl12 bc12]) r16 5 r20 Hr20.out _ HB12.out).mono ?_
          rintro e U27 ⟨rfl, hn⟩
          replace k5 := k5.of hn
          replace k6 := k6.of hn
          replace k7 := k7.of hn
          replace k14 := k14.of hn
          replace k17 := k17.of hn
          replace HB5 := Lib.hid (HB5.out.of hn)
          replace HB12 := Lib.hid (HB12.out.of hn)
          replace HB13 := Lib.hid (HB13.out.of hn)
          replace hb0 := hb0.trans (hn.mono hb0.size)
          clear hn
          obtain ⟨z21, hz21⟩ : ∃ o_o : Bool, decide (0 ≤ r20) = o_o := ⟨_, rfl⟩
          cases z21
          · go_wp2_with fail
            have HIn : TsI ax ay bx b_y cx cy n 2 tn TF ∧ 4 - Int.toNat 2 ≤ ((4 - Int.toNat (2)) : Nat) := by
              first
                | (exact ⟨TsI.same0 HT.out (tsG_zero hz19), by have := HI1.out.2; omega⟩)
                | (exact ⟨TsI.same1 HT.out (tsG_zero hz19), by have := HI1.out.2; omega⟩)
                | (exact ⟨TsI.same1 HT.out (tsG_lo hz19 (gN_pos hz18 Hr16.out) Hr20.out hz21), by have := HI1.out.2; omega⟩)
            go_roundg (4 - Int.toNat (2))
            case measure =>
              have q_ := HI1.out.2
              omega
            case rel => exact ⟨2, tg, tc, tn, TF, rfl, rfl, Lib.hid HIn, k5, k6, k7, HB5.out, hb0⟩
          · have c14_0 : U27.cell? ⟨q14, 0, none⟩ = some (.bool bn12) := k14.cell 0
            have c14_1 : U27.cell? ⟨q14, 1, none⟩ = some (.slice ba12 bl12 bc12) := k14.cell 1
            have l14 := k14.lt
            have c17_0 : U27.cell? ⟨U25.heap.size, 0, none⟩ = some (.bool bn13) := k17.cell 0
            have c17_1 : U27.cell? ⟨U25.heap.size, 1, none⟩ = some (.slice ba13 bl13 bc13) := k17.cell 1
            have l17 := k17.lt
            go_wp2_with fail
            clear c14_0 c14_1 l14 c17_0 c17_1 l17
            obtain ⟨r22, hr22⟩ : ∃ o_o : Int, cmpI r16 r17 = o_o := ⟨_, rfl⟩
            have Hr22 := Lib.hid hr22
            clear hr22
            refine (bigCmp_v (.agg #[.bool bn12, .slice ba12 bl12 bc12]) (.agg #[.bool bn13, .slice ba13 bl13 bc13]) r16 r17 5 5 r22 Hr22.out _ HB12.out HB13.out).mono ?_
            rintro e U28 ⟨rfl, hn⟩
            replace k5 := k5.of hn
            replace k6 := k6.of hn
            replace k7 := k7.of hn
            replace k14 := k14.of hn
            replace k17 := k17.of hn
            replace HB5 := Lib.hid (HB5.out.of hn)
            replace HB12 := Lib.hid (HB12.out.of hn)
            replace HB13 := Lib.hid (HB13.out.of hn)
            replace hb0 := hb0.trans (hn.mono hb0.size)
            clear hn
            obtain ⟨z23, hz23⟩ : ∃ o_o : Bool, decide (r22 ≤ 0) = o_o := ⟨_, rfl⟩
            cases z23
            · go_wp2_with fail
              have HIn : TsI ax ay bx b_y cx cy n 2 tn TF ∧ 4 - Int.toNat 2 ≤ ((4 - Int.toNat (2)) : Nat) := by
                first
                  | (exact ⟨TsI.same0 HT.out (tsG_zero hz19), by have := HI1.out.2; omega⟩)
                  | (exact ⟨TsI.same1 HT.out (tsG_zero hz19), by have := HI1.out.2; omega⟩)
                  | (exact ⟨TsI.same1 HT.out (tsG_hi hz19 (gN_pos hz18 Hr16.out) (gN_pos hz18 Hr17.out) Hr22.out hz23), by have := HI1.out.2; omega⟩)
                  | (exact ⟨TsI.same1 HT.out (tsG_lo hz19 (gN_pos hz18 Hr16.out) Hr20.out hz21), by have := HI1.out.2; omega⟩)
              go_roundg (4 - Int.toNat (2))
              case measure =>
                have q_ := HI1.out.2
                omega
              case rel => exact ⟨2, tg, tc, tn, TF, rfl, rfl, Lib.hid HIn, k5, k6, k7, HB5.out, hb0⟩
            · have c14_0 : U28.cell? ⟨q14, 0, none⟩ = some (.bool bn12) := k14.cell 0
              have c14_1 : U28.cell? ⟨q14, 1, none⟩ = some (.slice ba12 bl12 bc12) := k14.cell 1
              have l14 := k14.lt
              have c17_0 : U28.cell? ⟨U25.heap.size, 0, none⟩ = some (.bool bn13) := k17.cell 0
              have c17_1 : U28.cell? ⟨U25.heap.size, 1, none⟩ = some (.slice ba13 bl13 bc13) := k17.cell 1
              have l17 := k17.lt
              go_wp2_with fail
              clear c14_0 c14_1 l14 c17_0 c17_1 l17
              refine (put_g r16 r17 tg tc tn TF bn12 ba12 bl12 bc12 bn13 ba13 bl13 bc13 _ HB5.out (HB12.out.mono (by decide)) (HB13.out.mono (by decide)) (Lib.hid (by have := HT.out.2; omega))).mono ?_
              rintro e U29 ⟨pg14, pc14, pn14, PF14, rfl, hbm, hlm, hn⟩
              replace k5 := k5.of hn
              replace k6 := k6.of hn
              replace k7 := k7.of hn
              replace k14 := k14.of hn
              replace k17 := k17.of hn
              replace HB5 := Lib.hid (HB5.out.of hn)
              replace HB12 := Lib.hid (HB12.out.of hn)
              replace HB13 := Lib.hid (HB13.out.of hn)
              replace hb0 := hb0.trans (hn.mono hb0.size)
              clear hn
              have HB14 := Lib.hid hbm
              have HP14 := Lib.hid hlm
              clear hbm hlm
              go_wp2_with fail
              have HIn : TsI ax ay bx b_y cx cy n 2 pn14 PF14 ∧ 4 - Int.toNat 2 ≤ ((4 - Int.toNat (2)) : Nat) := by
                first
                  | (exact ⟨TsI.same0 HT.out (tsG_zero hz19), by have := HI1.out.2; omega⟩)
                  | (exact ⟨TsI.same1 HT.out (tsG_zero hz19), by have := HI1.out.2; omega⟩)
                  | (exact ⟨TsI.put1 HT.out HP14.out (tsG_in hz19 (gN_pos hz18 Hr16.out) (gN_pos hz18 Hr17.out) Hr20.out hz21 Hr22.out hz23), by have := HI1.out.2; omega⟩)
                  | (exact ⟨TsI.same1 HT.out (tsG_hi hz19 (gN_pos hz18 Hr16.out) (gN_pos hz18 Hr17.out) Hr22.out hz23), by have := HI1.out.2; omega⟩)
                  | (exact ⟨TsI.same1 HT.out (tsG_lo hz19 (gN_pos hz18 Hr16.out) Hr20.out hz21), by have := HI1.out.2; omega⟩)
              go_roundg (4 - Int.toNat (2))
              case measure =>
                have q_ := HI1.out.2
                omega
              case rel => exact ⟨2, pg14, pc14, pn14, PF14, rfl, rfl, Lib.hid HIn, k5, k6, k7, HB14.out, hb0⟩
        · have nz19 : (wrap64 (bx - ax)) = 0 := by simpa using hz19
          have c6_1 : U25.cell? ⟨(U5.heap.size + 1 + 1), 1, none⟩ = some (.int .i64 ((wrap64 (bx - ax)))) := k6.cell 1
          have l6 := k6.lt
          have l6_0 : U5.heap.size < U25.heap.size := by have := k6.lt; omega
          have l6_1 : U5.heap.size + 1 < U25.heap.size := by have := k6.lt; omega
          go_wp2_with fail
          clear c6_1 l6 l6_0 l6_1
          first | refine k_world ?_
          intro V30 hV30
          have D54 := Lib.hid k5.lt
          have D55 := Lib.hid k6.lt
          have D56 := Lib.hid k7.lt
          have D57 := Lib.hid k14.lt
          have D58 := Lib.hid hb0.size
          have hn : Below U25.heap.size U25 V30 := by rw [hV30]; exact below_a1 _ _
          have nk5 := k5.of hn
          have nk6 := k6.of hn
          have nk7 := k7.of hn
          have nk14 := k14.of hn
          replace HB5 := Lib.hid (HB5.out.of hn)
          replace HB12 := Lib.hid (HB12.out.of hn)
          replace HB13 := Lib.hid (HB13.out.of hn)
          have nhb0 := hb0.trans (hn.mono hb0.size)
          clear hn
          have k18 : Blk V30 U25.heap.size #[.bool bn13, .slice ba13 bl13 bc13] 28 := by rw [hV30]; exact (Blk.new _ _ _)
          clear k5 k6 k7 k14
          clear hb0
          clear hV30
          have k5 := nk5
          clear nk5
          have k6 := nk6
          clear nk6
          have k7 := nk7
          clear nk7
          have k14 := nk14
          clear nk14
          have hb0 := nhb0
          clear nhb0
          have HIn : TsI ax ay bx b_y cx cy n 2 tn TF ∧ 4 - Int.toNat 2 ≤ ((4 - Int.toNat (2)) : Nat) := by
            first
              | (exact ⟨TsI.same0 HT.out (tsG_zero hz19), by have := HI1.out.2; omega⟩)
              | (exact ⟨TsI.same1 HT.out (tsG_zero hz19), by have := HI1.out.2; omega⟩)
          have hq1 : (wrap64 (bx - ax)) = 0 := by simpa using hz19
          clear hz19
          simp only [hq1] at *
          go_roundg (4 - Int.toNat (2))
          case measure =>
            have q_ := HI1.out.2
            omega
          case rel => exact ⟨2, tg, tc, tn, TF, rfl, rfl, Lib.hid HIn, k5, k6, k7, HB5.out, hb0⟩
      · have c6_1 : U25.cell? ⟨(U5.heap.size + 1 + 1), 1, none⟩ = some (.int .i64 ((wrap64 (bx - ax)))) := k6.cell 1
        have l6 := k6.lt
        have l6_0 : U5.heap.size < U25.heap.size := by have := k6.lt; omega
        have l6_1 : U5.heap.size + 1 < U25.heap.size := by have := k6.lt; omega
        have c14_0 : U25.cell? ⟨q14, 0, none⟩ = some (.bool bn12) := k14.cell 0
        have c14_1 : U25.cell? ⟨q14, 1, none⟩ = some (.slice ba12 bl12 bc12) := k14.cell 1
        have l14 := k14.lt
        go_wp2_with fail
        clear c6_1 l6 l6_0 l6_1 c14_0 c14_1 l14
        first | refine calls_w ?_ | refine name_world ?_ | refine list_world ?_ | refine post_world ?_
        intro V31 hV31
        have D59 := Lib.hid k5.lt
        have D60 := Lib.hid k6.lt
        have D61 := Lib.hid k7.lt
        have D62 := Lib.hid k14.lt
        have D63 := Lib.hid hb0.size
        have hn : Below U25.heap.size U25 V31 := by rw [hV31]; exact below_a1 _ _
        have nk5 := k5.of hn
        have nk6 := k6.of hn
        have nk7 := k7.of hn
        have nk14 := k14.of hn
        replace HB5 := Lib.hid (HB5.out.of hn)
        replace HB12 := Lib.hid (HB12.out.of hn)
        replace HB13 := Lib.hid (HB13.out.of hn)
        have nhb0 := hb0.trans (hn.mono hb0.size)
        clear hn
        have k19 : Blk V31 U25.heap.size #[.bool bn13, .slice ba13 bl13 bc13] 28 := by rw [hV31]; exact (Blk.new _ _ _)
        clear k5 k6 k7 k14
        clear hb0
        clear hV31
        have k5 := nk5
        clear nk5
        have k6 := nk6
        clear nk6
        have k7 := nk7
        clear nk7
        have k14 := nk14
        clear nk14
        have hb0 := nhb0
        clear nhb0
        obtain ⟨r24, hr24⟩ : ∃ o_o : Int, -r16 = o_o := ⟨_, rfl⟩
        have Hr24 := Lib.hid hr24
        clear hr24
        refine (bigMinus_v (.agg #[.bool bn12, .slice ba12 bl12 bc12]) r16 r24 5 Hr24.out _ HB12.out).mono ?_
        rintro e U32 ⟨v_, rfl, hbm, hn⟩
        replace k5 := k5.of hn
        replace k6 := k6.of hn
        replace k7 := k7.of hn
        replace k14 := k14.of hn
        replace k19 := k19.of hn
        replace HB5 := Lib.hid (HB5.out.of hn)
        replace HB12 := Lib.hid (HB12.out.of hn)
        replace HB13 := Lib.hid (HB13.out.of hn)
        replace hb0 := hb0.trans (hn.mono hb0.size)
        clear hn
        have HB15 := Lib.hid hbm
        have hvm := hbm.shape
        clear hbm
        obtain ⟨bn15, ba15, bl15, bc15, rfl⟩ := hvm
        have c14_0 : U32.cell? ⟨q14, 0, none⟩ = some (.bool bn12) := k14.cell 0
        have c14_1 : U32.cell? ⟨q14, 1, none⟩ = some (.slice ba12 bl12 bc12) := k14.cell 1
        have f14_0 := k14.free 0
        have f14_1 := k14.free 1
        have l14 := k14.lt
        have c19_0 : U32.cell? ⟨U25.heap.size, 0, none⟩ = some (.bool bn13) := k19.cell 0
        have c19_1 : U32.cell? ⟨U25.heap.size, 1, none⟩ = some (.slice ba13 bl13 bc13) := k19.cell 1
        have l19 := k19.lt
        have p19_14 : U25.heap.size ≠ q14 := (by have := D62.out; omega)
        go_wp2_with fail
        clear c14_0 c14_1 f14_0 f14_1 l14 c19_0 c19_1 l19 p19_14
        first | refine calls_w ?_ | refine name_world ?_ | refine list_world ?_ | refine post_world ?_
        intro V33 hV33
        have D64 := Lib.hid k5.lt
        have D65 := Lib.hid k6.lt
        have D66 := Lib.hid k7.lt
        have D67 := Lib.hid k14.lt
        have D68 := Lib.hid k19.lt
        have D69 := Lib.hid hb0.size
        have nk5 : Blk V33 (U5.heap.size + 1) #[.int .i64 ax, .int .i64 ax, .int .i64 ay, .int .i64 ay] 162 := by rw [hV33]; exact (blk_setL k5 (by have := D39.out; have := D43.out; omega) 0 [.bool bn15, .slice ba15 bl15 bc15])
        have nk6 : Blk V33 (U5.heap.size + 1 + 1) #[.int .i64 ((wrap64 (bx - ax))), .int .i64 ((wrap64 (bx - ax))), .int .i64 ((wrap64 (b_y - ay))), .int .i64 ((wrap64 (b_y - ay)))] 162 := by rw [hV33]; exact (blk_setL k6 (by have := D40.out; have := D43.out; omega) 0 [.bool bn15, .slice ba15 bl15 bc15])
        have nk7 : Blk V33 (U5.heap.size + 1 + 1 + 1) #[.int .i64 ((wrap64 ((wrap64 ((wrap64 (2 * cx)) * n)) - n))), .int .i64 ((wrap64 ((wrap64 ((wrap64 (2 * cx)) * n)) + n))), .int .i64 ((wrap64 ((wrap64 ((wrap64 (2 * cy)) * n)) - n))), .int .i64 ((wrap64 ((wrap64 ((wrap64 (2 * cy)) * n)) + n)))] 162 := by rw [hV33]; exact (blk_setL k7 (by have := D41.out; have := D43.out; omega) 0 [.bool bn15, .slice ba15 bl15 bc15])
        have nk14 : Blk V33 q14 #[.bool bn15, .slice ba15 bl15 bc15] 28 := by rw [hV33]; exact (blk_full _ [.bool bn15, .slice ba15 bl15 bc15] k14 rfl)
        have nk19 : Blk V33 U25.heap.size #[.bool bn13, .slice ba13 bl13 bc13] 28 := by rw [hV33]; exact (blk_setL k19 (by have := D62.out; omega) 0 [.bool bn15, .slice ba15 bl15 bc15])
        have nhb0 : Below w.heap.size w V33 := by rw [hV33]; exact (blw_setL hb0 (by have := D42.out; have := D43.out; omega) 0 [.bool bn15, .slice ba15 bl15 bc15])
        replace HB5 : Hid (RS V33 tg tc tn TF) := Lib.hid (by rw [hV33]; exact (rs_setL HB5.out k14 (by decide) (Blk.cell k14 0) (fun _ h => by cases h) 0 [.bool bn15, .slice ba15 bl15 bc15]))
        replace HB12 : Hid (Big V33 (.agg #[.bool bn12, .slice ba12 bl12 bc12]) r16 5) := Lib.hid (by rw [hV33]; exact (big_setL HB12.out (Blk.cell k14 0) (fun _ h => by cases h) 0 [.bool bn15, .slice ba15 bl15 bc15]))
        replace HB13 : Hid (Big V33 (.agg #[.bool bn13, .slice ba13 bl13 bc13]) r17 5) := Lib.hid (by rw [hV33]; exact (big_setL HB13.out (Blk.cell k14 0) (fun _ h => by cases h) 0 [.bool bn15, .slice ba15 bl15 bc15]))
        replace HB15 : Hid (Big V33 (.agg #[.bool bn15, .slice ba15 bl15 bc15]) r24 5) := Lib.hid (by rw [hV33]; exact (big_setL HB15.out (Blk.cell k14 0) (fun _ h => by cases h) 0 [.bool bn15, .slice ba15 bl15 bc15]))
        clear k5 k6 k7 k14 k19
        clear hb0
        clear hV33
        have k5 := nk5
        clear nk5
        have k6 := nk6
        clear nk6
        have k7 := nk7
        clear nk7
        have k14 := nk14
        clear nk14
        have k19 := nk19
        clear nk19
        have hb0 := nhb0
        clear nhb0
        obtain ⟨r25, hr25⟩ : ∃ o_o : Int, -r17 = o_o := ⟨_, rfl⟩
        have Hr25 := Lib.hid hr25
        clear hr25
        refine (bigMinus_v (.agg #[.bool bn13, .slice ba13 bl13 bc13]) r17 r25 5 Hr25.out _ HB13.out).mono ?_
        rintro e U34 ⟨v_, rfl, hbm, hn⟩
        replace k5 := k5.of hn
        replace k6 := k6.of hn
        replace k7 := k7.of hn
        replace k14 := k14.of hn
        replace k19 := k19.of hn
        replace HB5 := Lib.hid (HB5.out.of hn)
        replace HB12 := Lib.hid (HB12.out.of hn)
        replace HB13 := Lib.hid (HB13.out.of hn)
        replace HB15 := Lib.hid (HB15.out.of hn)
        replace hb0 := hb0.trans (hn.mono hb0.size)
        clear hn
        have HB16 := Lib.hid hbm
        have hvm := hbm.shape
        clear hbm
        obtain ⟨bn16, ba16, bl16, bc16, rfl⟩ := hvm
        obtain ⟨z26, hz26⟩ : ∃ o_o : Bool, ((wrap64 (bx - ax)) == 0) = o_o := ⟨_, rfl⟩
        cases z26
        · have nz26 : ¬ (wrap64 (bx - ax)) = 0 := by simpa using hz26
          have c6_1 : U34.cell? ⟨(U5.heap.size + 1 + 1), 1, none⟩ = some (.int .i64 ((wrap64 (bx - ax)))) := k6.cell 1
          have l6 := k6.lt
          have c14_0 : U34.cell? ⟨q14, 0, none⟩ = some (.bool bn15) := k14.cell 0
          have c14_1 : U34.cell? ⟨q14, 1, none⟩ = some (.slice ba15 bl15 bc15) := k14.cell 1
          have l14 := k14.lt
          have c19_0 : U34.cell? ⟨U25.heap.size, 0, none⟩ = some (.bool bn13) := k19.cell 0
          have c19_1 : U34.cell? ⟨U25.heap.size, 1, none⟩ = some (.slice ba13 bl13 bc13) := k19.cell 1
          have f19_0 := k19.free 0
          have f19_1 := k19.free 1
          have l19 := k19.lt
          have p6_19 : (U5.heap.size + 1 + 1) ≠ U25.heap.size := (by have := D60.out; omega)
          have p14_19 : q14 ≠ U25.heap.size := (by have := D62.out; omega)
          go_wp2_with fail
          clear c6_1 l6 c14_0 c14_1 l14 c19_0 c19_1 f19_0 f19_1 l19 p6_19 p14_19
          first | refine calls_w ?_ | refine name_world ?_ | refine list_world ?_ | refine post_world ?_
          intro V35 hV35
          have D70 := Lib.hid k5.lt
          have D71 := Lib.hid k6.lt
          have D72 := Lib.hid k7.lt
          have D73 := Lib.hid k14.lt
          have D74 := Lib.hid k19.lt
          have D75 := Lib.hid hb0.size
          have nk5 : Blk V35 (U5.heap.size + 1) #[.int .i64 ax, .int .i64 ax, .int .i64 ay, .int .i64 ay] 162 := by rw [hV35]; exact (blk_setL k5 (by have := D59.out; omega) 0 [.bool bn16, .slice ba16 bl16 bc16])
          have nk6 : Blk V35 (U5.heap.size + 1 + 1) #[.int .i64 ((wrap64 (bx - ax))), .int .i64 ((wrap64 (bx - ax))), .int .i64 ((wrap64 (b_y - ay))), .int .i64 ((wrap64 (b_y - ay)))] 162 := by rw [hV35]; exact (blk_setL k6 (by have := D60.out; omega) 0 [.bool bn16, .slice ba16 bl16 bc16])
          have nk7 : Blk V35 (U5.heap.size + 1 + 1 + 1) #[.int .i64 ((wrap64 ((wrap64 ((wrap64 (2 * cx)) * n)) - n))), .int .i64 ((wrap64 ((wrap64 ((wrap64 (2 * cx)) * n)) + n))), .int .i64 ((wrap64 ((wrap64 ((wrap64 (2 * cy)) * n)) - n))), .int .i64 ((wrap64 ((wrap64 ((wrap64 (2 * cy)) * n)) + n)))] 162 := by rw [hV35]; exact (blk_setL k7 (by have := D61.out; omega) 0 [.bool bn16, .slice ba16 bl16 bc16])
          have nk14 : Blk V35 q14 #[.bool bn15, .slice ba15 bl15 bc15] 28 := by rw [hV35]; exact (blk_setL k14 (by have := D62.out; omega) 0 [.bool bn16, .slice ba16 bl16 bc16])
          have nk19 : Blk V35 U25.heap.size #[.bool bn16, .slice ba16 bl16 bc16] 28 := by rw [hV35]; exact (blk_full _ [.bool bn16, .slice ba16 bl16 bc16] k19 rfl)
          have nhb0 : Below w.heap.size w V35 := by rw [hV35]; exact (blw_setL hb0 (by have := D63.out; omega) 0 [.bool bn16, .slice ba16 bl16 bc16])
          replace HB5 : Hid (RS V35 tg tc tn TF) := Lib.hid (by rw [hV35]; exact (rs_setL HB5.out k19 (by decide) (Blk.cell k19 0) (fun _ h => by cases h) 0 [.bool bn16, .slice ba16 bl16 bc16]))
          replace HB12 : Hid (Big V35 (.agg #[.bool bn12, .slice ba12 bl12 bc12]) r16 5) := Lib.hid (by rw [hV35]; exact (big_setL HB12.out (Blk.cell k19 0) (fun _ h => by cases h) 0 [.bool bn16, .slice ba16 bl16 bc16]))
          replace HB13 : Hid (Big V35 (.agg #[.bool bn13, .slice ba13 bl13 bc13]) r17 5) := Lib.hid (by rw [hV35]; exact (big_setL HB13.out (Blk.cell k19 0) (fun _ h => by cases h) 0 [.bool bn16, .slice ba16 bl16 bc16]))
          replace HB15 : Hid (Big V35 (.agg #[.bool bn15, .slice ba15 bl15 bc15]) r24 5) := Lib.hid (by rw [hV35]; exact (big_setL HB15.out (Blk.cell k19 0) (fun _ h => by cases h) 0 [.bool bn16, .slice ba16 bl16 bc16]))
          replace HB16 : Hid (Big V35 (.agg #[.bool bn16, .slice ba16 bl16 bc16]) r25 5) := Lib.hid (by rw [hV35]; exact (big_setL HB16.out (Blk.cell k19 0) (fun _ h => by cases h) 0 [.bool bn16, .slice ba16 bl16 bc16]))
          clear k5 k6 k7 k14 k19
          clear hb0
          clear hV35
          have k5 := nk5
          clear nk5
          have k6 := nk6
          clear nk6
          have k7 := nk7
          clear nk7
          have k14 := nk14
          clear nk14
          have k19 := nk19
          clear nk19
          have hb0 := nhb0
          clear nhb0
          obtain ⟨r27, hr27⟩ : ∃ o_o : Int, r24.sign = o_o := ⟨_, rfl⟩
          have Hr27 := Lib.hid hr27
          clear hr27
          refine (bigSign_v (.agg #[.bool bn15, .slice ba15 bl15 bc15]) r24 5 r27 Hr27.out _ HB15.out).mono ?_
          rintro e U36 ⟨rfl, hn⟩
          replace k5 := k5.of hn
          replace k6 := k6.of hn
          replace k7 := k7.of hn
          replace k14 := k14.of hn
          replace k19 := k19.of hn
          replace HB5 := Lib.hid (HB5.out.of hn)
          replace HB12 := Lib.hid (HB12.out.of hn)
          replace HB13 := Lib.hid (HB13.out.of hn)
          replace HB15 := Lib.hid (HB15.out.of hn)
          replace HB16 := Lib.hid (HB16.out.of hn)
          replace hb0 := hb0.trans (hn.mono hb0.size)
          clear hn
          obtain ⟨z28, hz28⟩ : ∃ o_o : Bool, decide (0 ≤ r27) = o_o := ⟨_, rfl⟩
          cases z28
          · go_wp2_with fail
            have HIn : TsI ax ay bx b_y cx cy n 2 tn TF ∧ 4 - Int.toNat 2 ≤ ((4 - Int.toNat (2)) : Nat) := by
              first
                | (exact ⟨TsI.same0 HT.out (tsG_zero hz26), by have := HI1.out.2; omega⟩)
                | (exact ⟨TsI.same1 HT.out (tsG_zero hz26), by have := HI1.out.2; omega⟩)
                | (exact ⟨TsI.same1 HT.out (tsG_lo hz26 (gN_neg hz18 Hr16.out Hr24.out) Hr27.out hz28), by have := HI1.out.2; omega⟩)
            go_roundg (4 - Int.toNat (2))
            case measure =>
              have q_ := HI1.out.2
              omega
            case rel => exact ⟨2, tg, tc, tn, TF, rfl, rfl, Lib.hid HIn, k5, k6, k7, HB5.out, hb0⟩
          · have c14_0 : U36.cell? ⟨q14, 0, none⟩ = some (.bool bn15) := k14.cell 0
            have c14_1 : U36.cell? ⟨q14, 1, none⟩ = some (.slice ba15 bl15 bc15) := k14.cell 1
            have l14 := k14.lt
            have c19_0 : U36.cell? ⟨U25.heap.size, 0, none⟩ = some (.bool bn16) := k19.cell 0
            have c19_1 : U36.cell? ⟨U25.heap.size, 1, none⟩ = some (.slice ba16 bl16 bc16) := k19.cell 1
            have l19 := k19.lt
            go_wp2_with fail
            clear c14_0 c14_1 l14 c19_0 c19_1 l19
            obtain ⟨r29, hr29⟩ : ∃ o_o : Int, cmpI r24 r25 = o_o := ⟨_, rfl⟩
            have Hr29 := Lib.hid hr29
            clear hr29
            refine (bigCmp_v (.agg #[.bool bn15, .slice ba15 bl15 bc15]) (.agg #[.bool bn16, .slice ba16 bl16 bc16]) r24 r25 5 5 r29 Hr29.out _ HB15.out HB16.out).mono ?_
            rintro e U37 ⟨rfl, hn⟩
            replace k5 := k5.of hn
            replace k6 := k6.of hn
            replace k7 := k7.of hn
            replace k14 := k14.of hn
            replace k19 := k19.of hn
            replace HB5 := Lib.hid (HB5.out.of hn)
            replace HB12 := Lib.hid (HB12.out.of hn)
            replace HB13 := Lib.hid (HB13.out.of hn)
            replace HB15 := Lib.hid (HB15.out.of hn)
            replace HB16 := Lib.hid (HB16.out.of hn)
            replace hb0 := hb0.trans (hn.mono hb0.size)
            clear hn
            obtain ⟨z30, hz30⟩ : ∃ o_o : Bool, decide (r29 ≤ 0) = o_o := ⟨_, rfl⟩
            cases z30
            · go_wp2_with fail
              have HIn : TsI ax ay bx b_y cx cy n 2 tn TF ∧ 4 - Int.toNat 2 ≤ ((4 - Int.toNat (2)) : Nat) := by
                first
                  | (exact ⟨TsI.same0 HT.out (tsG_zero hz26), by have := HI1.out.2; omega⟩)
                  | (exact ⟨TsI.same1 HT.out (tsG_zero hz26), by have := HI1.out.2; omega⟩)
                  | (exact ⟨TsI.same1 HT.out (tsG_hi hz26 (gN_neg hz18 Hr16.out Hr24.out) (gN_neg hz18 Hr17.out Hr25.out) Hr29.out hz30), by have := HI1.out.2; omega⟩)
                  | (exact ⟨TsI.same1 HT.out (tsG_lo hz26 (gN_neg hz18 Hr16.out Hr24.out) Hr27.out hz28), by have := HI1.out.2; omega⟩)
              go_roundg (4 - Int.toNat (2))
              case measure =>
                have q_ := HI1.out.2
                omega
              case rel => exact ⟨2, tg, tc, tn, TF, rfl, rfl, Lib.hid HIn, k5, k6, k7, HB5.out, hb0⟩
            · have c14_0 : U37.cell? ⟨q14, 0, none⟩ = some (.bool bn15) := k14.cell 0
              have c14_1 : U37.cell? ⟨q14, 1, none⟩ = some (.slice ba15 bl15 bc15) := k14.cell 1
              have l14 := k14.lt
              have c19_0 : U37.cell? ⟨U25.heap.size, 0, none⟩ = some (.bool bn16) := k19.cell 0
              have c19_1 : U37.cell? ⟨U25.heap.size, 1, none⟩ = some (.slice ba16 bl16 bc16) := k19.cell 1
              have l19 := k19.lt
              go_wp2_with fail
              clear c14_0 c14_1 l14 c19_0 c19_1 l19
              refine (put_g r24 r25 tg tc tn TF bn15 ba15 bl15 bc15 bn16 ba16 bl16 bc16 _ HB5.out (HB15.out.mono (by decide)) (HB16.out.mono (by decide)) (Lib.hid (by have := HT.out.2; omega))).mono ?_
              rintro e U38 ⟨pg17, pc17, pn17, PF17, rfl, hbm, hlm, hn⟩
              replace k5 := k5.of hn
              replace k6 := k6.of hn
              replace k7 := k7.of hn
              replace k14 := k14.of hn
              replace k19 := k19.of hn
              replace HB5 := Lib.hid (HB5.out.of hn)
              replace HB12 := Lib.hid (HB12.out.of hn)
              replace HB13 := Lib.hid (HB13.out.of hn)
              replace HB15 := Lib.hid (HB15.out.of hn)
              replace HB16 := Lib.hid (HB16.out.of hn)
              replace hb0 := hb0.trans (hn.mono hb0.size)
              clear hn
              have HB17 := Lib.hid hbm
              have HP17 := Lib.hid hlm
              clear hbm hlm
              go_wp2_with fail
              have HIn : TsI ax ay bx b_y cx cy n 2 pn17 PF17 ∧ 4 - Int.toNat 2 ≤ ((4 - Int.toNat (2)) : Nat) := by
                first
                  | (exact ⟨TsI.same0 HT.out (tsG_zero hz26), by have := HI1.out.2; omega⟩)
                  | (exact ⟨TsI.same1 HT.out (tsG_zero hz26), by have := HI1.out.2; omega⟩)
                  | (exact ⟨TsI.put1 HT.out HP17.out (tsG_in hz26 (gN_neg hz18 Hr16.out Hr24.out) (gN_neg hz18 Hr17.out Hr25.out) Hr27.out hz28 Hr29.out hz30), by have := HI1.out.2; omega⟩)
                  | (exact ⟨TsI.same1 HT.out (tsG_hi hz26 (gN_neg hz18 Hr16.out Hr24.out) (gN_neg hz18 Hr17.out Hr25.out) Hr29.out hz30), by have := HI1.out.2; omega⟩)
                  | (exact ⟨TsI.same1 HT.out (tsG_lo hz26 (gN_neg hz18 Hr16.out Hr24.out) Hr27.out hz28), by have := HI1.out.2; omega⟩)
              go_roundg (4 - Int.toNat (2))
              case measure =>
                have q_ := HI1.out.2
                omega
              case rel => exact ⟨2, pg17, pc17, pn17, PF17, rfl, rfl, Lib.hid HIn, k5, k6, k7, HB17.out, hb0⟩
        · have nz26 : (wrap64 (bx - ax)) = 0 := by simpa using hz26
          exact absurd (of_decide_eq_true hz18) (by have e_ : (wrap64 (bx - ax)) = 0 := (by simpa using hz26); rw [e_]; decide)
    · have HT := Lib.hid hl
      clear hl
      go_wp2_with fail
      obtain ⟨r31, hr31⟩ : ∃ o_o : Int, (wrap64 ((wrap64 ((wrap64 ((wrap64 (2 * cy)) * n)) - n)) - (wrap64 (2 * ay)))) = o_o := ⟨_, rfl⟩
      have Hr31 := Lib.hid hr31
      clear hr31
      have c5_2 : W1_.cell? ⟨(U5.heap.size + 1), 2, none⟩ = some (.int .i64 ay) := k5.cell 2
      have l5 := k5.lt
      have c7_2 : W1_.cell? ⟨(U5.heap.size + 1 + 1 + 1), 2, none⟩ = some (.int .i64 ((wrap64 ((wrap64 ((wrap64 (2 * cy)) * n)) - n)))) := k7.cell 2
      have l7 := k7.lt
      have Kk5 := Lib.hid k5
      clear k5
      have Kk6 := Lib.hid k6
      clear k6
      have Kk7 := Lib.hid k7
      clear k7
      refine wp_region_float1 10 9 [(true, 0), (true, 1), (true, 2), (true, 3), (true, 4), (true, 5), (true, 6), (true, 7), (false, 8)] (by kernel_rfl) (by kernel_rfl) (fun _ _ d _ _ => by cases d <;> exact Iff.rfl) rfl rfl rfl alPcE_0 ?_
      have hb : Below W1_.heap.size W1_ W1_.drew := (Below.refl _ _).drew
      iterate 8
        refine wpF_take rfl rfl ?_
        go_big_quiet_step (rfl)
        refine wpQuiet_nil ?_
      refine wpF_do rfl ?_
      intro w1 hg K hK
      replace hb := hb.trans (hg.mono hb.size)
      try replace HB18 := Lib.hid (HB18.out.of hg)
      clear hg
      go_wp2_with ((go_at_call 66; (with_reducible refine (bigOf_v (wrap64 ((wrap64 ((wrap64 ((wrap64 (2 * cy)) * n)) - n)) - (wrap64 (2 * ay)))) r31 Hr31.out (wrap64_in _) _).mono ?_); rintro e w2 ⟨v_, rfl, hbm, hn⟩; have HB18 := Lib.hid hbm; have hvm := hbm.shape; clear hbm; obtain ⟨bn18, ba18, bl18, bc18, rfl⟩ := hvm))
      refine hK.out _ _ hn ?_
      replace hb := hb.trans (hn.mono hb.size)
      clear hK K
      clear hn
      refine wpF_nil ?_
      clear hb
      intro w1 hg hb b1 lb1 nb1
      replace HB18 := Lib.hid (HB18.out.of hg)
      clear hg
      simp only [Act.put, ptrTo, List.setIfInBounds_toArray, List.set_cons_succ, List.set_cons_zero]
      simp only [List.drop_succ_cons, List.drop_zero]
      clear c5_2 l5 c7_2 l7
      first | refine calls_w ?_ | refine name_world ?_ | refine list_world ?_ | refine post_world ?_
      intro U39 hU39
      subst hU39
      have D76 := Lib.hid Kk5.out.lt
      have D77 := Lib.hid Kk6.out.lt
      have D78 := Lib.hid Kk7.out.lt
      have D79 := Lib.hid hb0.size
      have k20 : Blk U39 b1 #[.bool false, .slice none 0 0] 28 := nb1
      have k5 := Kk5.out.of hb
      clear Kk5
      have k6 := Kk6.out.of hb
      clear Kk6
      have k7 := Kk7.out.of hb
      clear Kk7
      have D80 := Lib.hid lb1
      clear nb1 lb1
      replace HB5 := Lib.hid (HB5.out.of hb)
      replace hb0 := hb0.trans (hb.mono hb0.size)
      clear hb
      generalize b1 = q20 at *
      have c6_2 : U39.cell? ⟨(U5.heap.size + 1 + 1), 2, none⟩ = some (.int .i64 ((wrap64 (b_y - ay)))) := k6.cell 2
      have l6 := k6.lt
      have c20_0 : U39.cell? ⟨q20, 0, none⟩ = some (.bool false) := k20.cell 0
      have c20_1 : U39.cell? ⟨q20, 1, none⟩ = some (.slice none 0 0) := k20.cell 1
      have f20_0 := k20.free 0
      have f20_1 := k20.free 1
      have l20 := k20.lt
      have p6_20 : (U5.heap.size + 1 + 1) ≠ q20 := (by have := D77.out; have := D80.out; omega)
      go_wp2_with fail
      clear c6_2 l6 c20_0 c20_1 f20_0 f20_1 l20 p6_20
      first | refine calls_w ?_ | refine name_world ?_ | refine list_world ?_ | refine post_world ?_
      intro V40 hV40
      have D81 := Lib.hid k5.lt
      have D82 := Lib.hid k6.lt
      have D83 := Lib.hid k7.lt
      have D84 := Lib.hid k20.lt
      have D85 := Lib.hid hb0.size
      have nk5 : Blk V40 (U5.heap.size + 1) #[.int .i64 ax, .int .i64 ax, .int .i64 ay, .int .i64 ay] 162 := by rw [hV40]; exact (blk_setL k5 (by have := D76.out; have := D80.out; omega) 0 [.bool bn18, .slice ba18 bl18 bc18])
      have nk6 : Blk V40 (U5.heap.size + 1 + 1) #[.int .i64 ((wrap64 (bx - ax))), .int .i64 ((wrap64 (bx - ax))), .int .i64 ((wrap64 (b_y - ay))), .int .i64 ((wrap64 (b_y - ay)))] 162 := by rw [hV40]; exact (blk_setL k6 (by have := D77.out; have := D80.out; omega) 0 [.bool bn18, .slice ba18 bl18 bc18])
      have nk7 : Blk V40 (U5.heap.size + 1 + 1 + 1) #[.int .i64 ((wrap64 ((wrap64 ((wrap64 (2 * cx)) * n)) - n))), .int .i64 ((wrap64 ((wrap64 ((wrap64 (2 * cx)) * n)) + n))), .int .i64 ((wrap64 ((wrap64 ((wrap64 (2 * cy)) * n)) - n))), .int .i64 ((wrap64 ((wrap64 ((wrap64 (2 * cy)) * n)) + n)))] 162 := by rw [hV40]; exact (blk_setL k7 (by have := D78.out; have := D80.out; omega) 0 [.bool bn18, .slice ba18 bl18 bc18])
      have nk20 : Blk V40 q20 #[.bool bn18, .slice ba18 bl18 bc18] 28 := by rw [hV40]; exact (blk_full _ [.bool bn18, .slice ba18 bl18 bc18] k20 rfl)
      have nhb0 : Below w.heap.size w V40 := by rw [hV40]; exact (blw_setL hb0 (by have := D79.out; have := D80.out; omega) 0 [.bool bn18, .slice ba18 bl18 bc18])
      replace HB5 : Hid (RS V40 tg tc tn TF) := Lib.hid (by rw [hV40]; exact (rs_setL HB5.out k20 (by decide) (Blk.cell k20 0) (fun _ h => by cases h) 0 [.bool bn18, .slice ba18 bl18 bc18]))
      replace HB18 : Hid (Big V40 (.agg #[.bool bn18, .slice ba18 bl18 bc18]) r31 5) := Lib.hid (by rw [hV40]; exact (big_setL HB18.out (Blk.cell k20 0) (fun _ h => by cases h) 0 [.bool bn18, .slice ba18 bl18 bc18]))
      clear k5 k6 k7 k20
      clear hb0
      clear hV40
      have k5 := nk5
      clear nk5
      have k6 := nk6
      clear nk6
      have k7 := nk7
      clear nk7
      have k20 := nk20
      clear nk20
      have hb0 := nhb0
      clear nhb0
      obtain ⟨r32, hr32⟩ : ∃ o_o : Int, (wrap64 (2 * (wrap64 (b_y - ay)))) = o_o := ⟨_, rfl⟩
      have Hr32 := Lib.hid hr32
      clear hr32
      refine (bigOf_v (wrap64 (2 * (wrap64 (b_y - ay)))) r32 Hr32.out (wrap64_in _) _).mono ?_
      rintro e U41 ⟨v_, rfl, hbm, hn⟩
      replace k5 := k5.of hn
      replace k6 := k6.of hn
      replace k7 := k7.of hn
      replace k20 := k20.of hn
      replace HB5 := Lib.hid (HB5.out.of hn)
      replace HB18 := Lib.hid (HB18.out.of hn)
      replace hb0 := hb0.trans (hn.mono hb0.size)
      clear hn
      have HB19 := Lib.hid hbm
      have hvm := hbm.shape
      clear hbm
      obtain ⟨bn19, ba19, bl19, bc19, rfl⟩ := hvm
      obtain ⟨z33, hz33⟩ : ∃ o_o : Bool, decide ((wrap64 (b_y - ay)) < 0) = o_o := ⟨_, rfl⟩
      cases z33
      · obtain ⟨z34, hz34⟩ : ∃ o_o : Bool, ((wrap64 (b_y - ay)) == 0) = o_o := ⟨_, rfl⟩
        cases z34
        · have nz34 : ¬ (wrap64 (b_y - ay)) = 0 := by simpa using hz34
          have c6_2 : U41.cell? ⟨(U5.heap.size + 1 + 1), 2, none⟩ = some (.int .i64 ((wrap64 (b_y - ay)))) := k6.cell 2
          have l6 := k6.lt
          have l6_0 : U5.heap.size < U41.heap.size := by have := k6.lt; omega
          have l6_1 : U5.heap.size + 1 < U41.heap.size := by have := k6.lt; omega
          have c20_0 : U41.cell? ⟨q20, 0, none⟩ = some (.bool bn18) := k20.cell 0
          have c20_1 : U41.cell? ⟨q20, 1, none⟩ = some (.slice ba18 bl18 bc18) := k20.cell 1
          have l20 := k20.lt
          go_wp2_with fail
          clear c6_2 l6 l6_0 l6_1 c20_0 c20_1 l20
          first | refine calls_w ?_ | refine name_world ?_ | refine list_world ?_ | refine post_world ?_
          intro V42 hV42
          have D86 := Lib.hid k5.lt
          have D87 := Lib.hid k6.lt
          have D88 := Lib.hid k7.lt
          have D89 := Lib.hid k20.lt
          have D90 := Lib.hid hb0.size
          have hn : Below U41.heap.size U41 V42 := by rw [hV42]; exact below_a1 _ _
          have nk5 := k5.of hn
          have nk6 := k6.of hn
          have nk7 := k7.of hn
          have nk20 := k20.of hn
          replace HB5 := Lib.hid (HB5.out.of hn)
          replace HB18 := Lib.hid (HB18.out.of hn)
          replace HB19 := Lib.hid (HB19.out.of hn)
          have nhb0 := hb0.trans (hn.mono hb0.size)
          clear hn
          have k23 : Blk V42 U41.heap.size #[.bool bn19, .slice ba19 bl19 bc19] 28 := by rw [hV42]; exact (Blk.new _ _ _)
          clear k5 k6 k7 k20
          clear hb0
          clear hV42
          have k5 := nk5
          clear nk5
          have k6 := nk6
          clear nk6
          have k7 := nk7
          clear nk7
          have k20 := nk20
          clear nk20
          have hb0 := nhb0
          clear nhb0
          obtain ⟨r35, hr35⟩ : ∃ o_o : Int, r31.sign = o_o := ⟨_, rfl⟩
          have Hr35 := Lib.hid hr35
          clear hr35
          refine (bigSign_v (.agg #[.bool bn18, .slice ba18 bl18 bc18]) r31 5 r35 Hr35.out _ HB18.out).mono ?_
          rintro e U43 ⟨rfl, hn⟩
          replace k5 := k5.of hn
          replace k6 := k6.of hn
          replace k7 := k7.of hn
          replace k20 := k20.of hn
          replace k23 := k23.of hn
          replace HB5 := Lib.hid (HB5.out.of hn)
          replace HB18 := Lib.hid (HB18.out.of hn)
          replace HB19 := Lib.hid (HB19.out.of hn)
          replace hb0 := hb0.trans (hn.mono hb0.size)
          clear hn
          obtain ⟨z36, hz36⟩ : ∃ o_o : Bool, decide (0 ≤ r35) = o_o := ⟨_, rfl⟩
          cases z36
          · go_wp2_with fail
            have HIn : TsI ax ay bx b_y cx cy n 3 tn TF ∧ 4 - Int.toNat 3 ≤ ((4 - Int.toNat (3)) : Nat) := by
              first
                | (exact ⟨TsI.same2 HT.out (tsG_zero hz34), by have := HI1.out.2; omega⟩)
                | (exact ⟨TsI.same2 HT.out (tsG_lo hz34 (gN_pos hz33 Hr31.out) Hr35.out hz36), by have := HI1.out.2; omega⟩)
                | (exact ⟨TsI.same3 HT.out (tsG_zero hz34), by have := HI1.out.2; omega⟩)
            go_roundg (4 - Int.toNat (3))
            case measure =>
              have q_ := HI1.out.2
              omega
            case rel => exact ⟨3, tg, tc, tn, TF, rfl, rfl, Lib.hid HIn, k5, k6, k7, HB5.out, hb0⟩
          · have c20_0 : U43.cell? ⟨q20, 0, none⟩ = some (.bool bn18) := k20.cell 0
            have c20_1 : U43.cell? ⟨q20, 1, none⟩ = some (.slice ba18 bl18 bc18) := k20.cell 1
            have l20 := k20.lt
            have c23_0 : U43.cell? ⟨U41.heap.size, 0, none⟩ = some (.bool bn19) := k23.cell 0
            have c23_1 : U43.cell? ⟨U41.heap.size, 1, none⟩ = some (.slice ba19 bl19 bc19) := k23.cell 1
            have l23 := k23.lt
            go_wp2_with fail
            clear c20_0 c20_1 l20 c23_0 c23_1 l23
            obtain ⟨r37, hr37⟩ : ∃ o_o : Int, cmpI r31 r32 = o_o := ⟨_, rfl⟩
            have Hr37 := Lib.hid hr37
            clear hr37
            refine (bigCmp_v (.agg #[.bool bn18, .slice ba18 bl18 bc18]) (.agg #[.bool bn19, .slice ba19 bl19 bc19]) r31 r32 5 5 r37 Hr37.out _ HB18.out HB19.out).mono ?_
            rintro e U44 ⟨rfl, hn⟩
            replace k5 := k5.of hn
            replace k6 := k6.of hn
            replace k7 := k7.of hn
            replace k20 := k20.of hn
            replace k23 := k23.of hn
            replace HB5 := Lib.hid (HB5.out.of hn)
            replace HB18 := Lib.hid (HB18.out.of hn)
            replace HB19 := Lib.hid (HB19.out.of hn)
            replace hb0 := hb0.trans (hn.mono hb0.size)
            clear hn
            obtain ⟨z38, hz38⟩ : ∃ o_o : Bool, decide (r37 ≤ 0) = o_o := ⟨_, rfl⟩
            cases z38
            · go_wp2_with fail
              have HIn : TsI ax ay bx b_y cx cy n 3 tn TF ∧ 4 - Int.toNat 3 ≤ ((4 - Int.toNat (3)) : Nat) := by
                first
                  | (exact ⟨TsI.same2 HT.out (tsG_zero hz34), by have := HI1.out.2; omega⟩)
                  | (exact ⟨TsI.same2 HT.out (tsG_hi hz34 (gN_pos hz33 Hr31.out) (gN_pos hz33 Hr32.out) Hr37.out hz38), by have := HI1.out.2; omega⟩)
                  | (exact ⟨TsI.same2 HT.out (tsG_lo hz34 (gN_pos hz33 Hr31.out) Hr35.out hz36), by have := HI1.out.2; omega⟩)
                  | (exact ⟨TsI.same3 HT.out (tsG_zero hz34), by have := HI1.out.2; omega⟩)
              go_roundg (4 - Int.toNat (3))
              case measure =>
                have q_ := HI1.out.2
                omega
              case rel => exact ⟨3, tg, tc, tn, TF, rfl, rfl, Lib.hid HIn, k5, k6, k7, HB5.out, hb0⟩
            · have c20_0 : U44.cell? ⟨q20, 0, none⟩ = some (.bool bn18) := k20.cell 0
              have c20_1 : U44.cell? ⟨q20, 1, none⟩ = some (.slice ba18 bl18 bc18) := k20.cell 1
              have l20 := k20.lt
              have c23_0 : U44.cell? ⟨U41.heap.size, 0, none⟩ = some (.bool bn19) := k23.cell 0
              have c23_1 : U44.cell? ⟨U41.heap.size, 1, none⟩ = some (.slice ba19 bl19 bc19) := k23.cell 1
              have l23 := k23.lt
              go_wp2_with fail
              clear c20_0 c20_1 l20 c23_0 c23_1 l23
              refine (put_g r31 r32 tg tc tn TF bn18 ba18 bl18 bc18 bn19 ba19 bl19 bc19 _ HB5.out (HB18.out.mono (by decide)) (HB19.out.mono (by decide)) (Lib.hid (by have := HT.out.2; omega))).mono ?_
              rintro e U45 ⟨pg20, pc20, pn20, PF20, rfl, hbm, hlm, hn⟩
              replace k5 := k5.of hn
              replace k6 := k6.of hn
              replace k7 := k7.of hn
              replace k20 := k20.of hn
              replace k23 := k23.of hn
              replace HB5 := Lib.hid (HB5.out.of hn)
              replace HB18 := Lib.hid (HB18.out.of hn)
              replace HB19 := Lib.hid (HB19.out.of hn)
              replace hb0 := hb0.trans (hn.mono hb0.size)
              clear hn
              have HB20 := Lib.hid hbm
              have HP20 := Lib.hid hlm
              clear hbm hlm
              go_wp2_with fail
              have HIn : TsI ax ay bx b_y cx cy n 3 pn20 PF20 ∧ 4 - Int.toNat 3 ≤ ((4 - Int.toNat (3)) : Nat) := by
                first
                  | (exact ⟨TsI.same2 HT.out (tsG_zero hz34), by have := HI1.out.2; omega⟩)
                  | (exact ⟨TsI.put2 HT.out HP20.out (tsG_in hz34 (gN_pos hz33 Hr31.out) (gN_pos hz33 Hr32.out) Hr35.out hz36 Hr37.out hz38), by have := HI1.out.2; omega⟩)
                  | (exact ⟨TsI.same2 HT.out (tsG_hi hz34 (gN_pos hz33 Hr31.out) (gN_pos hz33 Hr32.out) Hr37.out hz38), by have := HI1.out.2; omega⟩)
                  | (exact ⟨TsI.same2 HT.out (tsG_lo hz34 (gN_pos hz33 Hr31.out) Hr35.out hz36), by have := HI1.out.2; omega⟩)
                  | (exact ⟨TsI.same3 HT.out (tsG_zero hz34), by have := HI1.out.2; omega⟩)
              go_roundg (4 - Int.toNat (3))
              case measure =>
                have q_ := HI1.out.2
                omega
              case rel => exact ⟨3, pg20, pc20, pn20, PF20, rfl, rfl, Lib.hid HIn, k5, k6, k7, HB20.out, hb0⟩
        · have nz34 : (wrap64 (b_y - ay)) = 0 := by simpa using hz34
          have c6_2 : U41.cell? ⟨(U5.heap.size + 1 + 1), 2, none⟩ = some (.int .i64 ((wrap64 (b_y - ay)))) := k6.cell 2
          have l6 := k6.lt
          have l6_0 : U5.heap.size < U41.heap.size := by have := k6.lt; omega
          have l6_1 : U5.heap.size + 1 < U41.heap.size := by have := k6.lt; omega
          go_wp2_with fail
          clear c6_2 l6 l6_0 l6_1
          first | refine k_world ?_
          intro V46 hV46
          have D91 := Lib.hid k5.lt
          have D92 := Lib.hid k6.lt
          have D93 := Lib.hid k7.lt
          have D94 := Lib.hid k20.lt
          have D95 := Lib.hid hb0.size
          have hn : Below U41.heap.size U41 V46 := by rw [hV46]; exact below_a1 _ _
          have nk5 := k5.of hn
          have nk6 := k6.of hn
          have nk7 := k7.of hn
          have nk20 := k20.of hn
          replace HB5 := Lib.hid (HB5.out.of hn)
          replace HB18 := Lib.hid (HB18.out.of hn)
          replace HB19 := Lib.hid (HB19.out.of hn)
          have nhb0 := hb0.trans (hn.mono hb0.size)
          clear hn
          have k24 : Blk V46 U41.heap.size #[.bool bn19, .slice ba19 bl19 bc19] 28 := by rw [hV46]; exact (Blk.new _ _ _)
          clear k5 k6 k7 k20
          clear hb0
          clear hV46
          have k5 := nk5
          clear nk5
          have k6 := nk6
          clear nk6
          have k7 := nk7
          clear nk7
          have k20 := nk20
          clear nk20
          have hb0 := nhb0
          clear nhb0
          have HIn : TsI ax ay bx b_y cx cy n 3 tn TF ∧ 4 - Int.toNat 3 ≤ ((4 - Int.toNat (3)) : Nat) := by
            first
              | (exact ⟨TsI.same2 HT.out (tsG_zero hz34), by have := HI1.out.2; omega⟩)
              | (exact ⟨TsI.same3 HT.out (tsG_zero hz34), by have := HI1.out.2; omega⟩)
          have hq1 : (wrap64 (b_y - ay)) = 0 := by simpa using hz34
          clear hz34
          simp only [hq1] at *
          go_roundg (4 - Int.toNat (3))
          case measure =>
            have q_ := HI1.out.2
            omega
          case rel => exact ⟨3, tg, tc, tn, TF, rfl, rfl, Lib.hid HIn, k5, k6, k7, HB5.out, hb0⟩
      · have c6_2 : U41.cell? ⟨(U5.heap.size + 1 + 1), 2, none⟩ = some (.int .i64 ((wrap64 (b_y - ay)))) := k6.cell 2
        have l6 := k6.lt
        have l6_0 : U5.heap.size < U41.heap.size := by have := k6.lt; omega
        have l6_1 : U5.heap.size + 1 < U41.heap.size := by have := k6.lt; omega
        have c20_0 : U41.cell? ⟨q20, 0, none⟩ = some (.bool bn18) := k20.cell 0
        have c20_1 : U41.cell? ⟨q20, 1, none⟩ = some (.slice ba18 bl18 bc18) := k20.cell 1
        have l20 := k20.lt
        go_wp2_with fail
        clear c6_2 l6 l6_0 l6_1 c20_0 c20_1 l20
        first | refine calls_w ?_ | refine name_world ?_ | refine list_world ?_ | refine post_world ?_
        intro V47 hV47
        have D96 := Lib.hid k5.lt
        have D97 := Lib.hid k6.lt
        have D98 := Lib.hid k7.lt
        have D99 := Lib.hid k20.lt
        have D100 := Lib.hid hb0.size
        have hn : Below U41.heap.size U41 V47 := by rw [hV47]; exact below_a1 _ _
        have nk5 := k5.of hn
        have nk6 := k6.of hn
        have nk7 := k7.of hn
        have nk20 := k20.of hn
        replace HB5 := Lib.hid (HB5.out.of hn)
        replace HB18 := Lib.hid (HB18.out.of hn)
        replace HB19 := Lib.hid (HB19.out.of hn)
        have nhb0 := hb0.trans (hn.mono hb0.size)
        clear hn
        have k25 : Blk V47 U41.heap.size #[.bool bn19, .slice ba19 bl19 bc19] 28 := by rw [hV47]; exact (Blk.new _ _ _)
        clear k5 k6 k7 k20
        clear hb0
        clear hV47
        have k5 := nk5
        clear nk5
        have k6 := nk6
        clear nk6
        have k7 := nk7
        clear nk7
        have k20 := nk20
        clear nk20
        have hb0 := nhb0
        clear nhb0
        obtain ⟨r39, hr39⟩ : ∃ o_o : Int, -r31 = o_o := ⟨_, rfl⟩
        have Hr39 := Lib.hid hr39
        clear hr39
        refine (bigMinus_v (.agg #[.bool bn18, .slice ba18 bl18 bc18]) r31 r39 5 Hr39.out _ HB18.out).mono ?_
        rintro e U48 ⟨v_, rfl, hbm, hn⟩
        replace k5 := k5.of hn
        replace k6 := k6.of hn
        replace k7 := k7.of hn
        replace k20 := k20.of hn
        replace k25 := k25.of hn
        replace HB5 := Lib.hid (HB5.out.of hn)
        replace HB18 := Lib.hid (HB18.out.of hn)
        replace HB19 := Lib.hid (HB19.out.of hn)
        replace hb0 := hb0.trans (hn.mono hb0.size)
        clear hn
        have HB21 := Lib.hid hbm
        have hvm := hbm.shape
        clear hbm
        obtain ⟨bn21, ba21, bl21, bc21, rfl⟩ := hvm
        have c20_0 : U48.cell? ⟨q20, 0, none⟩ = some (.bool bn18) := k20.cell 0
        have c20_1 : U48.cell? ⟨q20, 1, none⟩ = some (.slice ba18 bl18 bc18) := k20.cell 1
        have f20_0 := k20.free 0
        have f20_1 := k20.free 1
        have l20 := k20.lt
        have c25_0 : U48.cell? ⟨U41.heap.size, 0, none⟩ = some (.bool bn19) := k25.cell 0
        have c25_1 : U48.cell? ⟨U41.heap.size, 1, none⟩ = some (.slice ba19 bl19 bc19) := k25.cell 1
        have l25 := k25.lt
        have p25_20 : U41.heap.size ≠ q20 := (by have := D99.out; omega)
        go_wp2_with fail
        clear c20_0 c20_1 f20_0 f20_1 l20 c25_0 c25_1 l25 p25_20
        first | refine calls_w ?_ | refine name_world ?_ | refine list_world ?_ | refine post_world ?_
        intro V49 hV49
        have D101 := Lib.hid k5.lt
        have D102 := Lib.hid k6.lt
        have D103 := Lib.hid k7.lt
        have D104 := Lib.hid k20.lt
        have D105 := Lib.hid k25.lt
        have D106 := Lib.hid hb0.size
        have nk5 : Blk V49 (U5.heap.size + 1) #[.int .i64 ax, .int .i64 ax, .int .i64 ay, .int .i64 ay] 162 := by rw [hV49]; exact (blk_setL k5 (by have := D76.out; have := D80.out; omega) 0 [.bool bn21, .slice ba21 bl21 bc21])
        have nk6 : Blk V49 (U5.heap.size + 1 + 1) #[.int .i64 ((wrap64 (bx - ax))), .int .i64 ((wrap64 (bx - ax))), .int .i64 ((wrap64 (b_y - ay))), .int .i64 ((wrap64 (b_y - ay)))] 162 := by rw [hV49]; exact (blk_setL k6 (by have := D77.out; have := D80.out; omega) 0 [.bool bn21, .slice ba21 bl21 bc21])
        have nk7 : Blk V49 (U5.heap.size + 1 + 1 + 1) #[.int .i64 ((wrap64 ((wrap64 ((wrap64 (2 * cx)) * n)) - n))), .int .i64 ((wrap64 ((wrap64 ((wrap64 (2 * cx)) * n)) + n))), .int .i64 ((wrap64 ((wrap64 ((wrap64 (2 * cy)) * n)) - n))), .int .i64 ((wrap64 ((wrap64 ((wrap64 (2 * cy)) * n)) + n)))] 162 := by rw [hV49]; exact (blk_setL k7 (by have := D78.out; have := D80.out; omega) 0 [.bool bn21, .slice ba21 bl21 bc21])
        have nk20 : Blk V49 q20 #[.bool bn21, .slice ba21 bl21 bc21] 28 := by rw [hV49]; exact (blk_full _ [.bool bn21, .slice ba21 bl21 bc21] k20 rfl)
        have nk25 : Blk V49 U41.heap.size #[.bool bn19, .slice ba19 bl19 bc19] 28 := by rw [hV49]; exact (blk_setL k25 (by have := D99.out; omega) 0 [.bool bn21, .slice ba21 bl21 bc21])
        have nhb0 : Below w.heap.size w V49 := by rw [hV49]; exact (blw_setL hb0 (by have := D79.out; have := D80.out; omega) 0 [.bool bn21, .slice ba21 bl21 bc21])
        replace HB5 : Hid (RS V49 tg tc tn TF) := Lib.hid (by rw [hV49]; exact (rs_setL HB5.out k20 (by decide) (Blk.cell k20 0) (fun _ h => by cases h) 0 [.bool bn21, .slice ba21 bl21 bc21]))
        replace HB18 : Hid (Big V49 (.agg #[.bool bn18, .slice ba18 bl18 bc18]) r31 5) := Lib.hid (by rw [hV49]; exact (big_setL HB18.out (Blk.cell k20 0) (fun _ h => by cases h) 0 [.bool bn21, .slice ba21 bl21 bc21]))
        replace HB19 : Hid (Big V49 (.agg #[.bool bn19, .slice ba19 bl19 bc19]) r32 5) := Lib.hid (by rw [hV49]; exact (big_setL HB19.out (Blk.cell k20 0) (fun _ h => by cases h) 0 [.bool bn21, .slice ba21 bl21 bc21]))
        replace HB21 : Hid (Big V49 (.agg #[.bool bn21, .slice ba21 bl21 bc21]) r39 5) := Lib.hid (by rw [hV49]; exact (big_setL HB21.out (Blk.cell k20 0) (fun _ h => by cases h) 0 [.bool bn21, .slice ba21 bl21 bc21]))
        clear k5 k6 k7 k20 k25
        clear hb0
        clear hV49
        have k5 := nk5
        clear nk5
        have k6 := nk6
        clear nk6
        have k7 := nk7
        clear nk7
        have k20 := nk20
        clear nk20
        have k25 := nk25
        clear nk25
        have hb0 := nhb0
        clear nhb0
        obtain ⟨r40, hr40⟩ : ∃ o_o : Int, -r32 = o_o := ⟨_, rfl⟩
        have Hr40 := Lib.hid hr40
        clear hr40
        refine (bigMinus_v (.agg #[.bool bn19, .slice ba19 bl19 bc19]) r32 r40 5 Hr40.out _ HB19.out).mono ?_
        rintro e U50 ⟨v_, rfl, hbm, hn⟩
        replace k5 := k5.of hn
        replace k6 := k6.of hn
        replace k7 := k7.of hn
        replace k20 := k20.of hn
        replace k25 := k25.of hn
        replace HB5 := Lib.hid (HB5.out.of hn)
        replace HB18 := Lib.hid (HB18.out.of hn)
        replace HB19 := Lib.hid (HB19.out.of hn)
        replace HB21 := Lib.hid (HB21.out.of hn)
        replace hb0 := hb0.trans (hn.mono hb0.size)
        clear hn
        have HB22 := Lib.hid hbm
        have hvm := hbm.shape
        clear hbm
        obtain ⟨bn22, ba22, bl22, bc22, rfl⟩ := hvm
        obtain ⟨z41, hz41⟩ : ∃ o_o : Bool, ((wrap64 (b_y - ay)) == 0) = o_o := ⟨_, rfl⟩
        cases z41
        · have nz41 : ¬ (wrap64 (b_y - ay)) = 0 := by simpa using hz41
          have c6_2 : U50.cell? ⟨(U5.heap.size + 1 + 1), 2, none⟩ = some (.int .i64 ((wrap64 (b_y - ay)))) := k6.cell 2
          have l6 := k6.lt
          have c20_0 : U50.cell? ⟨q20, 0, none⟩ = some (.bool bn21) := k20.cell 0
          have c20_1 : U50.cell? ⟨q20, 1, none⟩ = some (.slice ba21 bl21 bc21) := k20.cell 1
          have l20 := k20.lt
          have c25_0 : U50.cell? ⟨U41.heap.size, 0, none⟩ = some (.bool bn19) := k25.cell 0
          have c25_1 : U50.cell? ⟨U41.heap.size, 1, none⟩ = some (.slice ba19 bl19 bc19) := k25.cell 1
          have f25_0 := k25.free 0
          have f25_1 := k25.free 1
          have l25 := k25.lt
          have p6_25 : (U5.heap.size + 1 + 1) ≠ U41.heap.size := (by have := D97.out; omega)
          have p20_25 : q20 ≠ U41.heap.size := (by have := D99.out; omega)
          go_wp2_with fail
          clear c6_2 l6 c20_0 c20_1 l20 c25_0 c25_1 f25_0 f25_1 l25 p6_25 p20_25
          first | refine calls_w ?_ | refine name_world ?_ | refine list_world ?_ | refine post_world ?_
          intro V51 hV51
          have D107 := Lib.hid k5.lt
          have D108 := Lib.hid k6.lt
          have D109 := Lib.hid k7.lt
          have D110 := Lib.hid k20.lt
          have D111 := Lib.hid k25.lt
          have D112 := Lib.hid hb0.size
          have nk5 : Blk V51 (U5.heap.size + 1) #[.int .i64 ax, .int .i64 ax, .int .i64 ay, .int .i64 ay] 162 := by rw [hV51]; exact (blk_setL k5 (by have := D96.out; omega) 0 [.bool bn22, .slice ba22 bl22 bc22])
          have nk6 : Blk V51 (U5.heap.size + 1 + 1) #[.int .i64 ((wrap64 (bx - ax))), .int .i64 ((wrap64 (bx - ax))), .int .i64 ((wrap64 (b_y - ay))), .int .i64 ((wrap64 (b_y - ay)))] 162 := by rw [hV51]; exact (blk_setL k6 (by have := D97.out; omega) 0 [.bool bn22, .slice ba22 bl22 bc22])
          have nk7 : Blk V51 (U5.heap.size + 1 + 1 + 1) #[.int .i64 ((wrap64 ((wrap64 ((wrap64 (2 * cx)) * n)) - n))), .int .i64 ((wrap64 ((wrap64 ((wrap64 (2 * cx)) * n)) + n))), .int .i64 ((wrap64 ((wrap64 ((wrap64 (2 * cy)) * n)) - n))), .int .i64 ((wrap64 ((wrap64 ((wrap64 (2 * cy)) * n)) + n)))] 162 := by rw [hV51]; exact (blk_setL k7 (by have := D98.out; omega) 0 [.bool bn22, .slice ba22 bl22 bc22])
          have nk20 : Blk V51 q20 #[.bool bn21, .slice ba21 bl21 bc21] 28 := by rw [hV51]; exact (blk_setL k20 (by have := D99.out; omega) 0 [.bool bn22, .slice ba22 bl22 bc22])
          have nk25 : Blk V51 U41.heap.size #[.bool bn22, .slice ba22 bl22 bc22] 28 := by rw [hV51]; exact (blk_full _ [.bool bn22, .slice ba22 bl22 bc22] k25 rfl)
          have nhb0 : Below w.heap.size w V51 := by rw [hV51]; exact (blw_setL hb0 (by have := D100.out; omega) 0 [.bool bn22, .slice ba22 bl22 bc22])
          replace HB5 : Hid (RS V51 tg tc tn TF) := Lib.hid (by rw [hV51]; exact (rs_setL HB5.out k25 (by decide) (Blk.cell k25 0) (fun _ h => by cases h) 0 [.bool bn22, .slice ba22 bl22 bc22]))
          replace HB18 : Hid (Big V51 (.agg #[.bool bn18, .slice ba18 bl18 bc18]) r31 5) := Lib.hid (by rw [hV51]; exact (big_setL HB18.out (Blk.cell k25 0) (fun _ h => by cases h) 0 [.bool bn22, .slice ba22 bl22 bc22]))
          replace HB19 : Hid (Big V51 (.agg #[.bool bn19, .slice ba19 bl19 bc19]) r32 5) := Lib.hid (by rw [hV51]; exact (big_setL HB19.out (Blk.cell k25 0) (fun _ h => by cases h) 0 [.bool bn22, .slice ba22 bl22 bc22]))
          replace HB21 : Hid (Big V51 (.agg #[.bool bn21, .slice ba21 bl21 bc21]) r39 5) := Lib.hid (by rw [hV51]; exact (big_setL HB21.out (Blk.cell k25 0) (fun _ h => by cases h) 0 [.bool bn22, .slice ba22 bl22 bc22]))
          replace HB22 : Hid (Big V51 (.agg #[.bool bn22, .slice ba22 bl22 bc22]) r40 5) := Lib.hid (by rw [hV51]; exact (big_setL HB22.out (Blk.cell k25 0) (fun _ h => by cases h) 0 [.bool bn22, .slice ba22 bl22 bc22]))
          clear k5 k6 k7 k20 k25
          clear hb0
          clear hV51
          have k5 := nk5
          clear nk5
          have k6 := nk6
          clear nk6
          have k7 := nk7
          clear nk7
          have k20 := nk20
          clear nk20
          have k25 := nk25
          clear nk25
          have hb0 := nhb0
          clear nhb0
          obtain ⟨r42, hr42⟩ : ∃ o_o : Int, r39.sign = o_o := ⟨_, rfl⟩
          have Hr42 := Lib.hid hr42
          clear hr42
          refine (bigSign_v (.agg #[.bool bn21, .slice ba21 bl21 bc21]) r39 5 r42 Hr42.out _ HB21.out).mono ?_
          rintro e U52 ⟨rfl, hn⟩
          replace k5 := k5.of hn
          replace k6 := k6.of hn
          replace k7 := k7.of hn
          replace k20 := k20.of hn
          replace k25 := k25.of hn
          replace HB5 := Lib.hid (HB5.out.of hn)
          replace HB18 := Lib.hid (HB18.out.of hn)
          replace HB19 := Lib.hid (HB19.out.of hn)
          replace HB21 := Lib.hid (HB21.out.of hn)
          replace HB22 := Lib.hid (HB22.out.of hn)
          replace hb0 := hb0.trans (hn.mono hb0.size)
          clear hn
          obtain ⟨z43, hz43⟩ : ∃ o_o : Bool, decide (0 ≤ r42) = o_o := ⟨_, rfl⟩
          cases z43
          · go_wp2_with fail
            have HIn : TsI ax ay bx b_y cx cy n 3 tn TF ∧ 4 - Int.toNat 3 ≤ ((4 - Int.toNat (3)) : Nat) := by
              first
                | (exact ⟨TsI.same2 HT.out (tsG_zero hz41), by have := HI1.out.2; omega⟩)
                | (exact ⟨TsI.same2 HT.out (tsG_lo hz41 (gN_neg hz33 Hr31.out Hr39.out) Hr42.out hz43), by have := HI1.out.2; omega⟩)
                | (exact ⟨TsI.same3 HT.out (tsG_zero hz41), by have := HI1.out.2; omega⟩)
            go_roundg (4 - Int.toNat (3))
            case measure =>
              have q_ := HI1.out.2
              omega
            case rel => exact ⟨3, tg, tc, tn, TF, rfl, rfl, Lib.hid HIn, k5, k6, k7, HB5.out, hb0⟩
          · have c20_0 : U52.cell? ⟨q20, 0, none⟩ = some (.bool bn21) := k20.cell 0
            have c20_1 : U52.cell? ⟨q20, 1, none⟩ = some (.slice ba21 bl21 bc21) := k20.cell 1
            have l20 := k20.lt
            have c25_0 : U52.cell? ⟨U41.heap.size, 0, none⟩ = some (.bool bn22) := k25.cell 0
            have c25_1 : U52.cell? ⟨U41.heap.size, 1, none⟩ = some (.slice ba22 bl22 bc22) := k25.cell 1
            have l25 := k25.lt
            go_wp2_with fail
            clear c20_0 c20_1 l20 c25_0 c25_1 l25
            obtain ⟨r44, hr44⟩ : ∃ o_o : Int, cmpI r39 r40 = o_o := ⟨_, rfl⟩
            have Hr44 := Lib.hid hr44
            clear hr44
            refine (bigCmp_v (.agg #[.bool bn21, .slice ba21 bl21 bc21]) (.agg #[.bool bn22, .slice ba22 bl22 bc22]) r39 r40 5 5 r44 Hr44.out _ HB21.out HB22.out).mono ?_
            rintro e U53 ⟨rfl, hn⟩
            replace k5 := k5.of hn
            replace k6 := k6.of hn
            replace k7 := k7.of hn
            replace k20 := k20.of hn
            replace k25 := k25.of hn
            replace HB5 := Lib.hid (HB5.out.of hn)
            replace HB18 := Lib.hid (HB18.out.of hn)
            replace HB19 := Lib.hid (HB19.out.of hn)
            replace HB21 := Lib.hid (HB21.out.of hn)
            replace HB22 := Lib.hid (HB22.out.of hn)
            replace hb0 := hb0.trans (hn.mono hb0.size)
            clear hn
            obtain ⟨z45, hz45⟩ : ∃ o_o : Bool, decide (r44 ≤ 0) = o_o := ⟨_, rfl⟩
            cases z45
            · go_wp2_with fail
              have HIn : TsI ax ay bx b_y cx cy n 3 tn TF ∧ 4 - Int.toNat 3 ≤ ((4 - Int.toNat (3)) : Nat) := by
                first
                  | (exact ⟨TsI.same2 HT.out (tsG_zero hz41), by have := HI1.out.2; omega⟩)
                  | (exact ⟨TsI.same2 HT.out (tsG_hi hz41 (gN_neg hz33 Hr31.out Hr39.out) (gN_neg hz33 Hr32.out Hr40.out) Hr44.out hz45), by have := HI1.out.2; omega⟩)
                  | (exact ⟨TsI.same2 HT.out (tsG_lo hz41 (gN_neg hz33 Hr31.out Hr39.out) Hr42.out hz43), by have := HI1.out.2; omega⟩)
                  | (exact ⟨TsI.same3 HT.out (tsG_zero hz41), by have := HI1.out.2; omega⟩)
              go_roundg (4 - Int.toNat (3))
              case measure =>
                have q_ := HI1.out.2
                omega
              case rel => exact ⟨3, tg, tc, tn, TF, rfl, rfl, Lib.hid HIn, k5, k6, k7, HB5.out, hb0⟩
            · have c20_0 : U53.cell? ⟨q20, 0, none⟩ = some (.bool bn21) := k20.cell 0
              have c20_1 : U53.cell? ⟨q20, 1, none⟩ = some (.slice ba21 bl21 bc21) := k20.cell 1
              have l20 := k20.lt
              have c25_0 : U53.cell? ⟨U41.heap.size, 0, none⟩ = some (.bool bn22) := k25.cell 0
              have c25_1 : U53.cell? ⟨U41.heap.size, 1, none⟩ = some (.slice ba22 bl22 bc22) := k25.cell 1
              have l25 := k25.lt
              go_wp2_with fail
              clear c20_0 c20_1 l20 c25_0 c25_1 l25
              refine (put_g r39 r40 tg tc tn TF bn21 ba21 bl21 bc21 bn22 ba22 bl22 bc22 _ HB5.out (HB21.out.mono (by decide)) (HB22.out.mono (by decide)) (Lib.hid (by have := HT.out.2; omega))).mono ?_
              rintro e U54 ⟨pg23, pc23, pn23, PF23, rfl, hbm, hlm, hn⟩
              replace k5 := k5.of hn
              replace k6 := k6.of hn
              replace k7 := k7.of hn
              replace k20 := k20.of hn
              replace k25 := k25.of hn
              replace HB5 := Lib.hid (HB5.out.of hn)
              replace HB18 := Lib.hid (HB18.out.of hn)
              replace HB19 := Lib.hid (HB19.out.of hn)
              replace HB21 := Lib.hid (HB21.out.of hn)
              replace HB22 := Lib.hid (HB22.out.of hn)
              replace hb0 := hb0.trans (hn.mono hb0.size)
              clear hn
              have HB23 := Lib.hid hbm
              have HP23 := Lib.hid hlm
              clear hbm hlm
              go_wp2_with fail
              have HIn : TsI ax ay bx b_y cx cy n 3 pn23 PF23 ∧ 4 - Int.toNat 3 ≤ ((4 - Int.toNat (3)) : Nat) := by
                first
                  | (exact ⟨TsI.same2 HT.out (tsG_zero hz41), by have := HI1.out.2; omega⟩)
                  | (exact ⟨TsI.put2 HT.out HP23.out (tsG_in hz41 (gN_neg hz33 Hr31.out Hr39.out) (gN_neg hz33 Hr32.out Hr40.out) Hr42.out hz43 Hr44.out hz45), by have := HI1.out.2; omega⟩)
                  | (exact ⟨TsI.same2 HT.out (tsG_hi hz41 (gN_neg hz33 Hr31.out Hr39.out) (gN_neg hz33 Hr32.out Hr40.out) Hr44.out hz45), by have := HI1.out.2; omega⟩)
                  | (exact ⟨TsI.same2 HT.out (tsG_lo hz41 (gN_neg hz33 Hr31.out Hr39.out) Hr42.out hz43), by have := HI1.out.2; omega⟩)
                  | (exact ⟨TsI.same3 HT.out (tsG_zero hz41), by have := HI1.out.2; omega⟩)
              go_roundg (4 - Int.toNat (3))
              case measure =>
                have q_ := HI1.out.2
                omega
              case rel => exact ⟨3, pg23, pc23, pn23, PF23, rfl, rfl, Lib.hid HIn, k5, k6, k7, HB23.out, hb0⟩
        · have nz41 : (wrap64 (b_y - ay)) = 0 := by simpa using hz41
          exact absurd (of_decide_eq_true hz33) (by have e_ : (wrap64 (b_y - ay)) = 0 := (by simpa using hz41); rw [e_]; decide)
    · have HT := Lib.hid hl
      clear hl
      go_wp2_with fail
      obtain ⟨r46, hr46⟩ : ∃ o_o : Int, (wrap64 ((wrap64 ((wrap64 ((wrap64 (2 * cy)) * n)) + n)) - (wrap64 (2 * ay)))) = o_o := ⟨_, rfl⟩
      have Hr46 := Lib.hid hr46
      clear hr46
      have c5_3 : W1_.cell? ⟨(U5.heap.size + 1), 3, none⟩ = some (.int .i64 ay) := k5.cell 3
      have l5 := k5.lt
      have c7_3 : W1_.cell? ⟨(U5.heap.size + 1 + 1 + 1), 3, none⟩ = some (.int .i64 ((wrap64 ((wrap64 ((wrap64 (2 * cy)) * n)) + n)))) := k7.cell 3
      have l7 := k7.lt
      have Kk5 := Lib.hid k5
      clear k5
      have Kk6 := Lib.hid k6
      clear k6
      have Kk7 := Lib.hid k7
      clear k7
      refine wp_region_float1 10 9 [(true, 0), (true, 1), (true, 2), (true, 3), (true, 4), (true, 5), (true, 6), (true, 7), (false, 8)] (by kernel_rfl) (by kernel_rfl) (fun _ _ d _ _ => by cases d <;> exact Iff.rfl) rfl rfl rfl alPcE_0 ?_
      have hb : Below W1_.heap.size W1_ W1_.drew := (Below.refl _ _).drew
      iterate 8
        refine wpF_take rfl rfl ?_
        go_big_quiet_step (rfl)
        refine wpQuiet_nil ?_
      refine wpF_do rfl ?_
      intro w1 hg K hK
      replace hb := hb.trans (hg.mono hb.size)
      try replace HB24 := Lib.hid (HB24.out.of hg)
      clear hg
      go_wp2_with ((go_at_call 66; (with_reducible refine (bigOf_v (wrap64 ((wrap64 ((wrap64 ((wrap64 (2 * cy)) * n)) + n)) - (wrap64 (2 * ay)))) r46 Hr46.out (wrap64_in _) _).mono ?_); rintro e w2 ⟨v_, rfl, hbm, hn⟩; have HB24 := Lib.hid hbm; have hvm := hbm.shape; clear hbm; obtain ⟨bn24, ba24, bl24, bc24, rfl⟩ := hvm))
      refine hK.out _ _ hn ?_
      replace hb := hb.trans (hn.mono hb.size)
      clear hK K
      clear hn
      refine wpF_nil ?_
      clear hb
      intro w1 hg hb b1 lb1 nb1
      replace HB24 := Lib.hid (HB24.out.of hg)
      clear hg
      simp only [Act.put, ptrTo, List.setIfInBounds_toArray, List.set_cons_succ, List.set_cons_zero]
      simp only [List.drop_succ_cons, List.drop_zero]
      clear c5_3 l5 c7_3 l7
      first | refine calls_w ?_ | refine name_world ?_ | refine list_world ?_ | refine post_world ?_
      intro U55 hU55
      subst hU55
      have D113 := Lib.hid Kk5.out.lt
      have D114 := Lib.hid Kk6.out.lt
      have D115 := Lib.hid Kk7.out.lt
      have D116 := Lib.hid hb0.size
      have k26 : Blk U55 b1 #[.bool false, .slice none 0 0] 28 := nb1
      have k5 := Kk5.out.of hb
      clear Kk5
      have k6 := Kk6.out.of hb
      clear Kk6
      have k7 := Kk7.out.of hb
      clear Kk7
      have D117 := Lib.hid lb1
      clear nb1 lb1
      replace HB5 := Lib.hid (HB5.out.of hb)
      replace hb0 := hb0.trans (hb.mono hb0.size)
      clear hb
      generalize b1 = q26 at *
      have c6_3 : U55.cell? ⟨(U5.heap.size + 1 + 1), 3, none⟩ = some (.int .i64 ((wrap64 (b_y - ay)))) := k6.cell 3
      have l6 := k6.lt
      have c26_0 : U55.cell? ⟨q26, 0, none⟩ = some (.bool false) := k26.cell 0
      have c26_1 : U55.cell? ⟨q26, 1, none⟩ = some (.slice none 0 0) := k26.cell 1
      have f26_0 := k26.free 0
      have f26_1 := k26.free 1
      have l26 := k26.lt
      have p6_26 : (U5.heap.size + 1 + 1) ≠ q26 := (by have := D114.out; have := D117.out; omega)
      go_wp2_with fail
      clear c6_3 l6 c26_0 c26_1 f26_0 f26_1 l26 p6_26
      first | refine calls_w ?_ | refine name_world ?_ | refine list_world ?_ | refine post_world ?_
      intro V56 hV56
      have D118 := Lib.hid k5.lt
      have D119 := Lib.hid k6.lt
      have D120 := Lib.hid k7.lt
      have D121 := Lib.hid k26.lt
      have D122 := Lib.hid hb0.size
      have nk5 : Blk V56 (U5.heap.size + 1) #[.int .i64 ax, .int .i64 ax, .int .i64 ay, .int .i64 ay] 162 := by rw [hV56]; exact (blk_setL k5 (by have := D113.out; have := D117.out; omega) 0 [.bool bn24, .slice ba24 bl24 bc24])
      have nk6 : Blk V56 (U5.heap.size + 1 + 1) #[.int .i64 ((wrap64 (bx - ax))), .int .i64 ((wrap64 (bx - ax))), .int .i64 ((wrap64 (b_y - ay))), .int .i64 ((wrap64 (b_y - ay)))] 162 := by rw [hV56]; exact (blk_setL k6 (by have := D114.out; have := D117.out; omega) 0 [.bool bn24, .slice ba24 bl24 bc24])
      have nk7 : Blk V56 (U5.heap.size + 1 + 1 + 1) #[.int .i64 ((wrap64 ((wrap64 ((wrap64 (2 * cx)) * n)) - n))), .int .i64 ((wrap64 ((wrap64 ((wrap64 (2 * cx)) * n)) + n))), .int .i64 ((wrap64 ((wrap64 ((wrap64 (2 * cy)) * n)) - n))), .int .i64 ((wrap64 ((wrap64 ((wrap64 (2 * cy)) * n)) + n)))] 162 := by rw [hV56]; exact (blk_setL k7 (by have := D115.out; have := D117.out; omega) 0 [.bool bn24, .slice ba24 bl24 bc24])
      have nk26 : Blk V56 q26 #[.bool bn24, .slice ba24 bl24 bc24] 28 := by rw [hV56]; exact (blk_full _ [.bool bn24, .slice ba24 bl24 bc24] k26 rfl)
      have nhb0 : Below w.heap.size w V56 := by rw [hV56]; exact (blw_setL hb0 (by have := D116.out; have := D117.out; omega) 0 [.bool bn24, .slice ba24 bl24 bc24])
      replace HB5 : Hid (RS V56 tg tc tn TF) := Lib.hid (by rw [hV56]; exact (rs_setL HB5.out k26 (by decide) (Blk.cell k26 0) (fun _ h => by cases h) 0 [.bool bn24, .slice ba24 bl24 bc24]))
      replace HB24 : Hid (Big V56 (.agg #[.bool bn24, .slice ba24 bl24 bc24]) r46 5) := Lib.hid (by rw [hV56]; exact (big_setL HB24.out (Blk.cell k26 0) (fun _ h => by cases h) 0 [.bool bn24, .slice ba24 bl24 bc24]))
      clear k5 k6 k7 k26
      clear hb0
      clear hV56
      have k5 := nk5
      clear nk5
      have k6 := nk6
      clear nk6
      have k7 := nk7
      clear nk7
      have k26 := nk26
      clear nk26
      have hb0 := nhb0
      clear nhb0
      obtain ⟨r47, hr47⟩ : ∃ o_o : Int, (wrap64 (2 * (wrap64 (b_y - ay)))) = o_o := ⟨_, rfl⟩
      have Hr47 := Lib.hid hr47
      clear hr47
      refine (bigOf_v (wrap64 (2 * (wrap64 (b_y - ay)))) r47 Hr47.out (wrap64_in _) _).mono ?_
      rintro e U57 ⟨v_, rfl, hbm, hn⟩
      replace k5 := k5.of hn
      replace k6 := k6.of hn
      replace k7 := k7.of hn
      replace k26 := k26.of hn
      replace HB5 := Lib.hid (HB5.out.of hn)
      replace HB24 := Lib.hid (HB24.out.of hn)
      replace hb0 := hb0.trans (hn.mono hb0.size)
      clear hn
      have HB25 := Lib.hid hbm
      have hvm := hbm.shape
      clear hbm
      obtain ⟨bn25, ba25, bl25, bc25, rfl⟩ := hvm
      obtain ⟨z48, hz48⟩ : ∃ o_o : Bool, decide ((wrap64 (b_y - ay)) < 0) = o_o := ⟨_, rfl⟩
      cases z48
      · obtain ⟨z49, hz49⟩ : ∃ o_o : Bool, ((wrap64 (b_y - ay)) == 0) = o_o := ⟨_, rfl⟩
        cases z49
        · have nz49 : ¬ (wrap64 (b_y - ay)) = 0 := by simpa using hz49
          have c6_3 : U57.cell? ⟨(U5.heap.size + 1 + 1), 3, none⟩ = some (.int .i64 ((wrap64 (b_y - ay)))) := k6.cell 3
          have l6 := k6.lt
          have l6_0 : U5.heap.size < U57.heap.size := by have := k6.lt; omega
          have l6_1 : U5.heap.size + 1 < U57.heap.size := by have := k6.lt; omega
          have c26_0 : U57.cell? ⟨q26, 0, none⟩ = some (.bool bn24) := k26.cell 0
          have c26_1 : U57.cell? ⟨q26, 1, none⟩ = some (.slice ba24 bl24 bc24) := k26.cell 1
          have l26 := k26.lt
          go_wp2_with fail
          clear c6_3 l6 l6_0 l6_1 c26_0 c26_1 l26
          first | refine calls_w ?_ | refine name_world ?_ | refine list_world ?_ | refine post_world ?_
          intro V58 hV58
          have D123 := Lib.hid k5.lt
          have D124 := Lib.hid k6.lt
          have D125 := Lib.hid k7.lt
          have D126 := Lib.hid k26.lt
          have D127 := Lib.hid hb0.size
          have hn : Below U57.heap.size U57 V58 := by rw [hV58]; exact below_a1 _ _
          have nk5 := k5.of hn
          have nk6 := k6.of hn
          have nk7 := k7.of hn
          have nk26 := k26.of hn
          replace HB5 := Lib.hid (HB5.out.of hn)
          replace HB24 := Lib.hid (HB24.out.of hn)
          replace HB25 := Lib.hid (HB25.out.of hn)
          have nhb0 := hb0.trans (hn.mono hb0.size)
          clear hn
          have k29 : Blk V58 U57.heap.size #[.bool bn25, .slice ba25 bl25 bc25] 28 := by rw [hV58]; exact (Blk.new _ _ _)
          clear k5 k6 k7 k26
          clear hb0
          clear hV58
          have k5 := nk5
          clear nk5
          have k6 := nk6
          clear nk6
          have k7 := nk7
          clear nk7
          have k26 := nk26
          clear nk26
          have hb0 := nhb0
          clear nhb0
          obtain ⟨r50, hr50⟩ : ∃ o_o : Int, r46.sign = o_o := ⟨_, rfl⟩
          have Hr50 := Lib.hid hr50
          clear hr50
          refine (bigSign_v (.agg #[.bool bn24, .slice ba24 bl24 bc24]) r46 5 r50 Hr50.out _ HB24.out).mono ?_
          rintro e U59 ⟨rfl, hn⟩
          replace k5 := k5.of hn
          replace k6 := k6.of hn
          replace k7 := k7.of hn
          replace k26 := k26.of hn
          replace k29 := k29.of hn
          replace HB5 := Lib.hid (HB5.out.of hn)
          replace HB24 := Lib.hid (HB24.out.of hn)
          replace HB25 := Lib.hid (HB25.out.of hn)
          replace hb0 := hb0.trans (hn.mono hb0.size)
          clear hn
          obtain ⟨z51, hz51⟩ : ∃ o_o : Bool, decide (0 ≤ r50) = o_o := ⟨_, rfl⟩
          cases z51
          · go_wp2_with fail
            have HIn : TsI ax ay bx b_y cx cy n 4 tn TF ∧ 4 - Int.toNat 4 ≤ ((4 - Int.toNat (4)) : Nat) := by
              first
                | (exact ⟨TsI.same2 HT.out (tsG_zero hz49), by have := HI1.out.2; omega⟩)
                | (exact ⟨TsI.same3 HT.out (tsG_zero hz49), by have := HI1.out.2; omega⟩)
                | (exact ⟨TsI.same3 HT.out (tsG_lo hz49 (gN_pos hz48 Hr46.out) Hr50.out hz51), by have := HI1.out.2; omega⟩)
            go_roundg (4 - Int.toNat (4))
            case measure =>
              have q_ := HI1.out.2
              omega
            case rel => exact ⟨4, tg, tc, tn, TF, rfl, rfl, Lib.hid HIn, k5, k6, k7, HB5.out, hb0⟩
          · have c26_0 : U59.cell? ⟨q26, 0, none⟩ = some (.bool bn24) := k26.cell 0
            have c26_1 : U59.cell? ⟨q26, 1, none⟩ = some (.slice ba24 bl24 bc24) := k26.cell 1
            have l26 := k26.lt
            have c29_0 : U59.cell? ⟨U57.heap.size, 0, none⟩ = some (.bool bn25) := k29.cell 0
            have c29_1 : U59.cell? ⟨U57.heap.size, 1, none⟩ = some (.slice ba25 bl25 bc25) := k29.cell 1
            have l29 := k29.lt
            go_wp2_with fail
            clear c26_0 c26_1 l26 c29_0 c29_1 l29
            obtain ⟨r52, hr52⟩ : ∃ o_o : Int, cmpI r46 r47 = o_o := ⟨_, rfl⟩
            have Hr52 := Lib.hid hr52
            clear hr52
            refine (bigCmp_v (.agg #[.bool bn24, .slice ba24 bl24 bc24]) (.agg #[.bool bn25, .slice ba25 bl25 bc25]) r46 r47 5 5 r52 Hr52.out _ HB24.out HB25.out).mono ?_
            rintro e U60 ⟨rfl, hn⟩
            replace k5 := k5.of hn
            replace k6 := k6.of hn
            replace k7 := k7.of hn
            replace k26 := k26.of hn
            replace k29 := k29.of hn
            replace HB5 := Lib.hid (HB5.out.of hn)
            replace HB24 := Lib.hid (HB24.out.of hn)
            replace HB25 := Lib.hid (HB25.out.of hn)
            replace hb0 := hb0.trans (hn.mono hb0.size)
            clear hn
            obtain ⟨z53, hz53⟩ : ∃ o_o : Bool, decide (r52 ≤ 0) = o_o := ⟨_, rfl⟩
            cases z53
            · go_wp2_with fail
              have HIn : TsI ax ay bx b_y cx cy n 4 tn TF ∧ 4 - Int.toNat 4 ≤ ((4 - Int.toNat (4)) : Nat) := by
                first
                  | (exact ⟨TsI.same2 HT.out (tsG_zero hz49), by have := HI1.out.2; omega⟩)
                  | (exact ⟨TsI.same3 HT.out (tsG_zero hz49), by have := HI1.out.2; omega⟩)
                  | (exact ⟨TsI.same3 HT.out (tsG_hi hz49 (gN_pos hz48 Hr46.out) (gN_pos hz48 Hr47.out) Hr52.out hz53), by have := HI1.out.2; omega⟩)
                  | (exact ⟨TsI.same3 HT.out (tsG_lo hz49 (gN_pos hz48 Hr46.out) Hr50.out hz51), by have := HI1.out.2; omega⟩)
              go_roundg (4 - Int.toNat (4))
              case measure =>
                have q_ := HI1.out.2
                omega
              case rel => exact ⟨4, tg, tc, tn, TF, rfl, rfl, Lib.hid HIn, k5, k6, k7, HB5.out, hb0⟩
            · have c26_0 : U60.cell? ⟨q26, 0, none⟩ = some (.bool bn24) := k26.cell 0
              have c26_1 : U60.cell? ⟨q26, 1, none⟩ = some (.slice ba24 bl24 bc24) := k26.cell 1
              have l26 := k26.lt
              have c29_0 : U60.cell? ⟨U57.heap.size, 0, none⟩ = some (.bool bn25) := k29.cell 0
              have c29_1 : U60.cell? ⟨U57.heap.size, 1, none⟩ = some (.slice ba25 bl25 bc25) := k29.cell 1
              have l29 := k29.lt
              go_wp2_with fail
              clear c26_0 c26_1 l26 c29_0 c29_1 l29
              refine (put_g r46 r47 tg tc tn TF bn24 ba24 bl24 bc24 bn25 ba25 bl25 bc25 _ HB5.out (HB24.out.mono (by decide)) (HB25.out.mono (by decide)) (Lib.hid (by have := HT.out.2; omega))).mono ?_
              rintro e U61 ⟨pg26, pc26, pn26, PF26, rfl, hbm, hlm, hn⟩
              replace k5 := k5.of hn
              replace k6 := k6.of hn
              replace k7 := k7.of hn
              replace k26 := k26.of hn
              replace k29 := k29.of hn
              replace HB5 := Lib.hid (HB5.out.of hn)
              replace HB24 := Lib.hid (HB24.out.of hn)
              replace HB25 := Lib.hid (HB25.out.of hn)
              replace hb0 := hb0.trans (hn.mono hb0.size)
              clear hn
              have HB26 := Lib.hid hbm
              have HP26 := Lib.hid hlm
              clear hbm hlm
              go_wp2_with fail
              have HIn : TsI ax ay bx b_y cx cy n 4 pn26 PF26 ∧ 4 - Int.toNat 4 ≤ ((4 - Int.toNat (4)) : Nat) := by
                first
                  | (exact ⟨TsI.same2 HT.out (tsG_zero hz49), by have := HI1.out.2; omega⟩)
                  | (exact ⟨TsI.same3 HT.out (tsG_zero hz49), by have := HI1.out.2; omega⟩)
                  | (exact ⟨TsI.put3 HT.out HP26.out (tsG_in hz49 (gN_pos hz48 Hr46.out) (gN_pos hz48 Hr47.out) Hr50.out hz51 Hr52.out hz53), by have := HI1.out.2; omega⟩)
                  | (exact ⟨TsI.same3 HT.out (tsG_hi hz49 (gN_pos hz48 Hr46.out) (gN_pos hz48 Hr47.out) Hr52.out hz53), by have := HI1.out.2; omega⟩)
                  | (exact ⟨TsI.same3 HT.out (tsG_lo hz49 (gN_pos hz48 Hr46.out) Hr50.out hz51), by have := HI1.out.2; omega⟩)
              go_roundg (4 - Int.toNat (4))
              case measure =>
                have q_ := HI1.out.2
                omega
              case rel => exact ⟨4, pg26, pc26, pn26, PF26, rfl, rfl, Lib.hid HIn, k5, k6, k7, HB26.out, hb0⟩
        · have nz49 : (wrap64 (b_y - ay)) = 0 := by simpa using hz49
          have c6_3 : U57.cell? ⟨(U5.heap.size + 1 + 1), 3, none⟩ = some (.int .i64 ((wrap64 (b_y - ay)))) := k6.cell 3
          have l6 := k6.lt
          have l6_0 : U5.heap.size < U57.heap.size := by have := k6.lt; omega
          have l6_1 : U5.heap.size + 1 < U57.heap.size := by have := k6.lt; omega
          go_wp2_with fail
          clear c6_3 l6 l6_0 l6_1
          first | refine k_world ?_
          intro V62 hV62
          have D128 := Lib.hid k5.lt
          have D129 := Lib.hid k6.lt
          have D130 := Lib.hid k7.lt
          have D131 := Lib.hid k26.lt
          have D132 := Lib.hid hb0.size
          have hn : Below U57.heap.size U57 V62 := by rw [hV62]; exact below_a1 _ _
          have nk5 := k5.of hn
          have nk6 := k6.of hn
          have nk7 := k7.of hn
          have nk26 := k26.of hn
          replace HB5 := Lib.hid (HB5.out.of hn)
          replace HB24 := Lib.hid (HB24.out.of hn)
          replace HB25 := Lib.hid (HB25.out.of hn)
          have nhb0 := hb0.trans (hn.mono hb0.size)
          clear hn
          have k30 : Blk V62 U57.heap.size #[.bool bn25, .slice ba25 bl25 bc25] 28 := by rw [hV62]; exact (Blk.new _ _ _)
          clear k5 k6 k7 k26
          clear hb0
          clear hV62
          have k5 := nk5
          clear nk5
          have k6 := nk6
          clear nk6
          have k7 := nk7
          clear nk7
          have k26 := nk26
          clear nk26
          have hb0 := nhb0
          clear nhb0
          have HIn : TsI ax ay bx b_y cx cy n 4 tn TF ∧ 4 - Int.toNat 4 ≤ ((4 - Int.toNat (4)) : Nat) := by
            first
              | (exact ⟨TsI.same2 HT.out (tsG_zero hz49), by have := HI1.out.2; omega⟩)
              | (exact ⟨TsI.same3 HT.out (tsG_zero hz49), by have := HI1.out.2; omega⟩)
          have hq1 : (wrap64 (b_y - ay)) = 0 := by simpa using hz49
          clear hz49
          simp only [hq1] at *
          go_roundg (4 - Int.toNat (4))
          case measure =>
            have q_ := HI1.out.2
            omega
          case rel => exact ⟨4, tg, tc, tn, TF, rfl, rfl, Lib.hid HIn, k5, k6, k7, HB5.out, hb0⟩
      · have c6_3 : U57.cell? ⟨(U5.heap.size + 1 + 1), 3, none⟩ = some (.int .i64 ((wrap64 (b_y - ay)))) := k6.cell 3
        have l6 := k6.lt
        have l6_0 : U5.heap.size < U57.heap.size := by have := k6.lt; omega
        have l6_1 : U5.heap.size + 1 < U57.heap.size := by have := k6.lt; omega
        have c26_0 : U57.cell? ⟨q26, 0, none⟩ = some (.bool bn24) := k26.cell 0
        have c26_1 : U57.cell? ⟨q26, 1, none⟩ = some (.slice ba24 bl24 bc24) := k26.cell 1
        have l26 := k26.lt
        go_wp2_with fail
        clear c6_3 l6 l6_0 l6_1 c26_0 c26_1 l26
        first | refine calls_w ?_ | refine name_world ?_ | refine list_world ?_ | refine post_world ?_
        intro V63 hV63
        have D133 := Lib.hid k5.lt
        have D134 := Lib.hid k6.lt
        have D135 := Lib.hid k7.lt
        have D136 := Lib.hid k26.lt
        have D137 := Lib.hid hb0.size
        have hn : Below U57.heap.size U57 V63 := by rw [hV63]; exact below_a1 _ _
        have nk5 := k5.of hn
        have nk6 := k6.of hn
        have nk7 := k7.of hn
        have nk26 := k26.of hn
        replace HB5 := Lib.hid (HB5.out.of hn)
        replace HB24 := Lib.hid (HB24.out.of hn)
        replace HB25 := Lib.hid (HB25.out.of hn)
        have nhb0 := hb0.trans (hn.mono hb0.size)
        clear hn
        have k31 : Blk V63 U57.heap.size #[.bool bn25, .slice ba25 bl25 bc25] 28 := by rw [hV63]; exact (Blk.new _ _ _)
        clear k5 k6 k7 k26
        clear hb0
        clear hV63
        have k5 := nk5
        clear nk5
        have k6 := nk6
        clear nk6
        have k7 := nk7
        clear nk7
        have k26 := nk26
        clear nk26
        have hb0 := nhb0
        clear nhb0
        obtain ⟨r54, hr54⟩ : ∃ o_o : Int, -r46 = o_o := ⟨_, rfl⟩
        have Hr54 := Lib.hid hr54
        clear hr54
        refine (bigMinus_v (.agg #[.bool bn24, .slice ba24 bl24 bc24]) r46 r54 5 Hr54.out _ HB24.out).mono ?_
        rintro e U64 ⟨v_, rfl, hbm, hn⟩
        replace k5 := k5.of hn
        replace k6 := k6.of hn
        replace k7 := k7.of hn
        replace k26 := k26.of hn
        replace k31 := k31.of hn
        replace HB5 := Lib.hid (HB5.out.of hn)
        replace HB24 := Lib.hid (HB24.out.of hn)
        replace HB25 := Lib.hid (HB25.out.of hn)
        replace hb0 := hb0.trans (hn.mono hb0.size)
        clear hn
        have HB27 := Lib.hid hbm
        have hvm := hbm.shape
        clear hbm
        obtain ⟨bn27, ba27, bl27, bc27, rfl⟩ := hvm
        have c26_0 : U64.cell? ⟨q26, 0, none⟩ = some (.bool bn24) := k26.cell 0
        have c26_1 : U64.cell? ⟨q26, 1, none⟩ = some (.slice ba24 bl24 bc24) := k26.cell 1
        have f26_0 := k26.free 0
        have f26_1 := k26.free 1
        have l26 := k26.lt
        have c31_0 : U64.cell? ⟨U57.heap.size, 0, none⟩ = some (.bool bn25) := k31.cell 0
        have c31_1 : U64.cell? ⟨U57.heap.size, 1, none⟩ = some (.slice ba25 bl25 bc25) := k31.cell 1
        have l31 := k31.lt
        have p31_26 : U57.heap.size ≠ q26 := (by have := D136.out; omega)
        go_wp2_with fail
        clear c26_0 c26_1 f26_0 f26_1 l26 c31_0 c31_1 l31 p31_26
        first | refine calls_w ?_ | refine name_world ?_ | refine list_world ?_ | refine post_world ?_
        intro V65 hV65
        have D138 := Lib.hid k5.lt
        have D139 := Lib.hid k6.lt
        have D140 := Lib.hid k7.lt
        have D141 := Lib.hid k26.lt
        have D142 := Lib.hid k31.lt
        have D143 := Lib.hid hb0.size
        have nk5 : Blk V65 (U5.heap.size + 1) #[.int .i64 ax, .int .i64 ax, .int .i64 ay, .int .i64 ay] 162 := by rw [hV65]; exact (blk_setL k5 (by have := D113.out; have := D117.out; omega) 0 [.bool bn27, .slice ba27 bl27 bc27])
        have nk6 : Blk V65 (U5.heap.size + 1 + 1) #[.int .i64 ((wrap64 (bx - ax))), .int .i64 ((wrap64 (bx - ax))), .int .i64 ((wrap64 (b_y - ay))), .int .i64 ((wrap64 (b_y - ay)))] 162 := by rw [hV65]; exact (blk_setL k6 (by have := D114.out; have := D117.out; omega) 0 [.bool bn27, .slice ba27 bl27 bc27])
        have nk7 : Blk V65 (U5.heap.size + 1 + 1 + 1) #[.int .i64 ((wrap64 ((wrap64 ((wrap64 (2 * cx)) * n)) - n))), .int .i64 ((wrap64 ((wrap64 ((wrap64 (2 * cx)) * n)) + n))), .int .i64 ((wrap64 ((wrap64 ((wrap64 (2 * cy)) * n)) - n))), .int .i64 ((wrap64 ((wrap64 ((wrap64 (2 * cy)) * n)) + n)))] 162 := by rw [hV65]; exact (blk_setL k7 (by have := D115.out; have := D117.out; omega) 0 [.bool bn27, .slice ba27 bl27 bc27])
        have nk26 : Blk V65 q26 #[.bool bn27, .slice ba27 bl27 bc27] 28 := by rw [hV65]; exact (blk_full _ [.bool bn27, .slice ba27 bl27 bc27] k26 rfl)
        have nk31 : Blk V65 U57.heap.size #[.bool bn25, .slice ba25 bl25 bc25] 28 := by rw [hV65]; exact (blk_setL k31 (by have := D136.out; omega) 0 [.bool bn27, .slice ba27 bl27 bc27])
        have nhb0 : Below w.heap.size w V65 := by rw [hV65]; exact (blw_setL hb0 (by have := D116.out; have := D117.out; omega) 0 [.bool bn27, .slice ba27 bl27 bc27])
        replace HB5 : Hid (RS V65 tg tc tn TF) := Lib.hid (by rw [hV65]; exact (rs_setL HB5.out k26 (by decide) (Blk.cell k26 0) (fun _ h => by cases h) 0 [.bool bn27, .slice ba27 bl27 bc27]))
        replace HB24 : Hid (Big V65 (.agg #[.bool bn24, .slice ba24 bl24 bc24]) r46 5) := Lib.hid (by rw [hV65]; exact (big_setL HB24.out (Blk.cell k26 0) (fun _ h => by cases h) 0 [.bool bn27, .slice ba27 bl27 bc27]))
        replace HB25 : Hid (Big V65 (.agg #[.bool bn25, .slice ba25 bl25 bc25]) r47 5) := Lib.hid (by rw [hV65]; exact (big_setL HB25.out (Blk.cell k26 0) (fun _ h => by cases h) 0 [.bool bn27, .slice ba27 bl27 bc27]))
        replace HB27 : Hid (Big V65 (.agg #[.bool bn27, .slice ba27 bl27 bc27]) r54 5) := Lib.hid (by rw [hV65]; exact (big_setL HB27.out (Blk.cell k26 0) (fun _ h => by cases h) 0 [.bool bn27, .slice ba27 bl27 bc27]))
        clear k5 k6 k7 k26 k31
        clear hb0
        clear hV65
        have k5 := nk5
        clear nk5
        have k6 := nk6
        clear nk6
        have k7 := nk7
        clear nk7
        have k26 := nk26
        clear nk26
        have k31 := nk31
        clear nk31
        have hb0 := nhb0
        clear nhb0
        obtain ⟨r55, hr55⟩ : ∃ o_o : Int, -r47 = o_o := ⟨_, rfl⟩
        have Hr55 := Lib.hid hr55
        clear hr55
        refine (bigMinus_v (.agg #[.bool bn25, .slice ba25 bl25 bc25]) r47 r55 5 Hr55.out _ HB25.out).mono ?_
        rintro e U66 ⟨v_, rfl, hbm, hn⟩
        replace k5 := k5.of hn
        replace k6 := k6.of hn
        replace k7 := k7.of hn
        replace k26 := k26.of hn
        replace k31 := k31.of hn
        replace HB5 := Lib.hid (HB5.out.of hn)
        replace HB24 := Lib.hid (HB24.out.of hn)
        replace HB25 := Lib.hid (HB25.out.of hn)
        replace HB27 := Lib.hid (HB27.out.of hn)
        replace hb0 := hb0.trans (hn.mono hb0.size)
        clear hn
        have HB28 := Lib.hid hbm
        have hvm := hbm.shape
        clear hbm
        obtain ⟨bn28, ba28, bl28, bc28, rfl⟩ := hvm
        obtain ⟨z56, hz56⟩ : ∃ o_o : Bool, ((wrap64 (b_y - ay)) == 0) = o_o := ⟨_, rfl⟩
        cases z56
        · have nz56 : ¬ (wrap64 (b_y - ay)) = 0 := by simpa using hz56
          have c6_3 : U66.cell? ⟨(U5.heap.size + 1 + 1), 3, none⟩ = some (.int .i64 ((wrap64 (b_y - ay)))) := k6.cell 3
          have l6 := k6.lt
          have c26_0 : U66.cell? ⟨q26, 0, none⟩ = some (.bool bn27) := k26.cell 0
          have c26_1 : U66.cell? ⟨q26, 1, none⟩ = some (.slice ba27 bl27 bc27) := k26.cell 1
          have l26 := k26.lt
          have c31_0 : U66.cell? ⟨U57.heap.size, 0, none⟩ = some (.bool bn25) := k31.cell 0
          have c31_1 : U66.cell? ⟨U57.heap.size, 1, none⟩ = some (.slice ba25 bl25 bc25) := k31.cell 1
          have f31_0 := k31.free 0
          have f31_1 := k31.free 1
          have l31 := k31.lt
          have p6_31 : (U5.heap.size + 1 + 1) ≠ U57.heap.size := (by have := D134.out; omega)
          have p26_31 : q26 ≠ U57.heap.size := (by have := D136.out; omega)
          go_wp2_with fail
          clear c6_3 l6 c26_0 c26_1 l26 c31_0 c31_1 f31_0 f31_1 l31 p6_31 p26_31
          first | refine calls_w ?_ | refine name_world ?_ | refine list_world ?_ | refine post_world ?_
          intro V67 hV67
          have D144 := Lib.hid k5.lt
          have D145 := Lib.hid k6.lt
          have D146 := Lib.hid k7.lt
          have D147 := Lib.hid k26.lt
          have D148 := Lib.hid k31.lt
          have D149 := Lib.hid hb0.size
          have nk5 : Blk V67 (U5.heap.size + 1) #[.int .i64 ax, .int .i64 ax, .int .i64 ay, .int .i64 ay] 162 := by rw [hV67]; exact (blk_setL k5 (by have := D133.out; omega) 0 [.bool bn28, .slice ba28 bl28 bc28])
          have nk6 : Blk V67 (U5.heap.size + 1 + 1) #[.int .i64 ((wrap64 (bx - ax))), .int .i64 ((wrap64 (bx - ax))), .int .i64 ((wrap64 (b_y - ay))), .int .i64 ((wrap64 (b_y - ay)))] 162 := by rw [hV67]; exact (blk_setL k6 (by have := D134.out; omega) 0 [.bool bn28, .slice ba28 bl28 bc28])
          have nk7 : Blk V67 (U5.heap.size + 1 + 1 + 1) #[.int .i64 ((wrap64 ((wrap64 ((wrap64 (2 * cx)) * n)) - n))), .int .i64 ((wrap64 ((wrap64 ((wrap64 (2 * cx)) * n)) + n))), .int .i64 ((wrap64 ((wrap64 ((wrap64 (2 * cy)) * n)) - n))), .int .i64 ((wrap64 ((wrap64 ((wrap64 (2 * cy)) * n)) + n)))] 162 := by rw [hV67]; exact (blk_setL k7 (by have := D135.out; omega) 0 [.bool bn28, .slice ba28 bl28 bc28])
          have nk26 : Blk V67 q26 #[.bool bn27, .slice ba27 bl27 bc27] 28 := by rw [hV67]; exact (blk_setL k26 (by have := D136.out; omega) 0 [.bool bn28, .slice ba28 bl28 bc28])
          have nk31 : Blk V67 U57.heap.size #[.bool bn28, .slice ba28 bl28 bc28] 28 := by rw [hV67]; exact (blk_full _ [.bool bn28, .slice ba28 bl28 bc28] k31 rfl)
          have nhb0 : Below w.heap.size w V67 := by rw [hV67]; exact (blw_setL hb0 (by have := D137.out; omega) 0 [.bool bn28, .slice ba28 bl28 bc28])
          replace HB5 : Hid (RS V67 tg tc tn TF) := Lib.hid (by rw [hV67]; exact (rs_setL HB5.out k31 (by decide) (Blk.cell k31 0) (fun _ h => by cases h) 0 [.bool bn28, .slice ba28 bl28 bc28]))
          replace HB24 : Hid (Big V67 (.agg #[.bool bn24, .slice ba24 bl24 bc24]) r46 5) := Lib.hid (by rw [hV67]; exact (big_setL HB24.out (Blk.cell k31 0) (fun _ h => by cases h) 0 [.bool bn28, .slice ba28 bl28 bc28]))
          replace HB25 : Hid (Big V67 (.agg #[.bool bn25, .slice ba25 bl25 bc25]) r47 5) := Lib.hid (by rw [hV67]; exact (big_setL HB25.out (Blk.cell k31 0) (fun _ h => by cases h) 0 [.bool bn28, .slice ba28 bl28 bc28]))
          replace HB27 : Hid (Big V67 (.agg #[.bool bn27, .slice ba27 bl27 bc27]) r54 5) := Lib.hid (by rw [hV67]; exact (big_setL HB27.out (Blk.cell k31 0) (fun _ h => by cases h) 0 [.bool bn28, .slice ba28 bl28 bc28]))
          replace HB28 : Hid (Big V67 (.agg #[.bool bn28, .slice ba28 bl28 bc28]) r55 5) := Lib.hid (by rw [hV67]; exact (big_setL HB28.out (Blk.cell k31 0) (fun _ h => by cases h) 0 [.bool bn28, .slice ba28 bl28 bc28]))
          clear k5 k6 k7 k26 k31
          clear hb0
          clear hV67
          have k5 := nk5
          clear nk5
          have k6 := nk6
          clear nk6
          have k7 := nk7
          clear nk7
          have k26 := nk26
          clear nk26
          have k31 := nk31
          clear nk31
          have hb0 := nhb0
          clear nhb0
          obtain ⟨r57, hr57⟩ : ∃ o_o : Int, r54.sign = o_o := ⟨_, rfl⟩
          have Hr57 := Lib.hid hr57
          clear hr57
          refine (bigSign_v (.agg #[.bool bn27, .slice ba27 bl27 bc27]) r54 5 r57 Hr57.out _ HB27.out).mono ?_
          rintro e U68 ⟨rfl, hn⟩
          replace k5 := k5.of hn
          replace k6 := k6.of hn
          replace k7 := k7.of hn
          replace k26 := k26.of hn
          replace k31 := k31.of hn
          replace HB5 := Lib.hid (HB5.out.of hn)
          replace HB24 := Lib.hid (HB24.out.of hn)
          replace HB25 := Lib.hid (HB25.out.of hn)
          replace HB27 := Lib.hid (HB27.out.of hn)
          replace HB28 := Lib.hid (HB28.out.of hn)
          replace hb0 := hb0.trans (hn.mono hb0.size)
          clear hn
          obtain ⟨z58, hz58⟩ : ∃ o_o : Bool, decide (0 ≤ r57) = o_o := ⟨_, rfl⟩
          cases z58
          · go_wp2_with fail
            have HIn : TsI ax ay bx b_y cx cy n 4 tn TF ∧ 4 - Int.toNat 4 ≤ ((4 - Int.toNat (4)) : Nat) := by
              first
                | (exact ⟨TsI.same2 HT.out (tsG_zero hz56), by have := HI1.out.2; omega⟩)
                | (exact ⟨TsI.same3 HT.out (tsG_zero hz56), by have := HI1.out.2; omega⟩)
                | (exact ⟨TsI.same3 HT.out (tsG_lo hz56 (gN_neg hz48 Hr46.out Hr54.out) Hr57.out hz58), by have := HI1.out.2; omega⟩)
            go_roundg (4 - Int.toNat (4))
            case measure =>
              have q_ := HI1.out.2
              omega
            case rel => exact ⟨4, tg, tc, tn, TF, rfl, rfl, Lib.hid HIn, k5, k6, k7, HB5.out, hb0⟩
          · have c26_0 : U68.cell? ⟨q26, 0, none⟩ = some (.bool bn27) := k26.cell 0
            have c26_1 : U68.cell? ⟨q26, 1, none⟩ = some (.slice ba27 bl27 bc27) := k26.cell 1
            have l26 := k26.lt
            have c31_0 : U68.cell? ⟨U57.heap.size, 0, none⟩ = some (.bool bn28) := k31.cell 0
            have c31_1 : U68.cell? ⟨U57.heap.size, 1, none⟩ = some (.slice ba28 bl28 bc28) := k31.cell 1
            have l31 := k31.lt
            go_wp2_with fail
            clear c26_0 c26_1 l26 c31_0 c31_1 l31
            obtain ⟨r59, hr59⟩ : ∃ o_o : Int, cmpI r54 r55 = o_o := ⟨_, rfl⟩
            have Hr59 := Lib.hid hr59
            clear hr59
            refine (bigCmp_v (.agg #[.bool bn27, .slice ba27 bl27 bc27]) (.agg #[.bool bn28, .slice ba28 bl28 bc28]) r54 r55 5 5 r59 Hr59.out _ HB27.out HB28.out).mono ?_
            rintro e U69 ⟨rfl, hn⟩
            replace k5 := k5.of hn
            replace k6 := k6.of hn
            replace k7 := k7.of hn
            replace k26 := k26.of hn
            replace k31 := k31.of hn
            replace HB5 := Lib.hid (HB5.out.of hn)
            replace HB24 := Lib.hid (HB24.out.of hn)
            replace HB25 := Lib.hid (HB25.out.of hn)
            replace HB27 := Lib.hid (HB27.out.of hn)
            replace HB28 := Lib.hid (HB28.out.of hn)
            replace hb0 := hb0.trans (hn.mono hb0.size)
            clear hn
            obtain ⟨z60, hz60⟩ : ∃ o_o : Bool, decide (r59 ≤ 0) = o_o := ⟨_, rfl⟩
            cases z60
            · go_wp2_with fail
              have HIn : TsI ax ay bx b_y cx cy n 4 tn TF ∧ 4 - Int.toNat 4 ≤ ((4 - Int.toNat (4)) : Nat) := by
                first
                  | (exact ⟨TsI.same2 HT.out (tsG_zero hz56), by have := HI1.out.2; omega⟩)
                  | (exact ⟨TsI.same3 HT.out (tsG_zero hz56), by have := HI1.out.2; omega⟩)
                  | (exact ⟨TsI.same3 HT.out (tsG_hi hz56 (gN_neg hz48 Hr46.out Hr54.out) (gN_neg hz48 Hr47.out Hr55.out) Hr59.out hz60), by have := HI1.out.2; omega⟩)
                  | (exact ⟨TsI.same3 HT.out (tsG_lo hz56 (gN_neg hz48 Hr46.out Hr54.out) Hr57.out hz58), by have := HI1.out.2; omega⟩)
              go_roundg (4 - Int.toNat (4))
              case measure =>
                have q_ := HI1.out.2
                omega
              case rel => exact ⟨4, tg, tc, tn, TF, rfl, rfl, Lib.hid HIn, k5, k6, k7, HB5.out, hb0⟩
            · have c26_0 : U69.cell? ⟨q26, 0, none⟩ = some (.bool bn27) := k26.cell 0
              have c26_1 : U69.cell? ⟨q26, 1, none⟩ = some (.slice ba27 bl27 bc27) := k26.cell 1
              have l26 := k26.lt
              have c31_0 : U69.cell? ⟨U57.heap.size, 0, none⟩ = some (.bool bn28) := k31.cell 0
              have c31_1 : U69.cell? ⟨U57.heap.size, 1, none⟩ = some (.slice ba28 bl28 bc28) := k31.cell 1
              have l31 := k31.lt
              go_wp2_with fail
              clear c26_0 c26_1 l26 c31_0 c31_1 l31
              refine (put_g r54 r55 tg tc tn TF bn27 ba27 bl27 bc27 bn28 ba28 bl28 bc28 _ HB5.out (HB27.out.mono (by decide)) (HB28.out.mono (by decide)) (Lib.hid (by have := HT.out.2; omega))).mono ?_
              rintro e U70 ⟨pg29, pc29, pn29, PF29, rfl, hbm, hlm, hn⟩
              replace k5 := k5.of hn
              replace k6 := k6.of hn
              replace k7 := k7.of hn
              replace k26 := k26.of hn
              replace k31 := k31.of hn
              replace HB5 := Lib.hid (HB5.out.of hn)
              replace HB24 := Lib.hid (HB24.out.of hn)
              replace HB25 := Lib.hid (HB25.out.of hn)
              replace HB27 := Lib.hid (HB27.out.of hn)
              replace HB28 := Lib.hid (HB28.out.of hn)
              replace hb0 := hb0.trans (hn.mono hb0.size)
              clear hn
              have HB29 := Lib.hid hbm
              have HP29 := Lib.hid hlm
              clear hbm hlm
              go_wp2_with fail
              have HIn : TsI ax ay bx b_y cx cy n 4 pn29 PF29 ∧ 4 - Int.toNat 4 ≤ ((4 - Int.toNat (4)) : Nat) := by
                first
                  | (exact ⟨TsI.same2 HT.out (tsG_zero hz56), by have := HI1.out.2; omega⟩)
                  | (exact ⟨TsI.same3 HT.out (tsG_zero hz56), by have := HI1.out.2; omega⟩)
                  | (exact ⟨TsI.put3 HT.out HP29.out (tsG_in hz56 (gN_neg hz48 Hr46.out Hr54.out) (gN_neg hz48 Hr47.out Hr55.out) Hr57.out hz58 Hr59.out hz60), by have := HI1.out.2; omega⟩)
                  | (exact ⟨TsI.same3 HT.out (tsG_hi hz56 (gN_neg hz48 Hr46.out Hr54.out) (gN_neg hz48 Hr47.out Hr55.out) Hr59.out hz60), by have := HI1.out.2; omega⟩)
                  | (exact ⟨TsI.same3 HT.out (tsG_lo hz56 (gN_neg hz48 Hr46.out Hr54.out) Hr57.out hz58), by have := HI1.out.2; omega⟩)
              go_roundg (4 - Int.toNat (4))
              case measure =>
                have q_ := HI1.out.2
                omega
              case rel => exact ⟨4, pg29, pc29, pn29, PF29, rfl, rfl, Lib.hid HIn, k5, k6, k7, HB29.out, hb0⟩
        · have nz56 : (wrap64 (b_y - ay)) = 0 := by simpa using hz56
          exact absurd (of_decide_eq_true hz48) (by have e_ : (wrap64 (b_y - ay)) = 0 := (by simpa using hz56); rw [e_]; decide)
    · have HT := Lib.hid hl
      clear hl
      go_wp2
      first | go_ret | go_ret2
      exact ⟨tg, tc, tn, TF, rfl, HB5.out, HT.out.1, HT.out.2, hb0⟩
end Go.Proofs.Ytlcbomjdbdgbmaa

namespace Go.Proofs.Ytlcbomjdbdgbmaa
open Go.RowKit

theorem alPcF_0 : AllocRuns Try.prog 28 #[.bool false, .slice none 0 0] := fun w => by kernel_rfl

def mdN (X : Int) (Y : Int) (X2 : Int) (Y2 : Int) : Int := ((X * Y2) + (X2 * Y))

def mdD (_X : Int) (Y : Int) (_X2 : Int) (Y2 : Int) : Int := ((Y * Y2) + (Y * Y2))

def Mid15_is_post (w : World) (R0 : Int) (R1 : Int) (e : Ending) (w' : World) : Prop := ∃ (m0 : Bool) (p0 : Option Addr) (q0 t0 : Nat) (m1 : Bool) (p1 : Option Addr) (q1 t1 : Nat), e = .returned (.agg #[.bool m0, .slice p0 q0 t0, .bool m1, .slice p1 q1 t1]) ∧ Big w' (.agg #[.bool m0, .slice p0 q0 t0]) R0 37 ∧ Big w' (.agg #[.bool m1, .slice p1 q1 t1]) R1 37 ∧ Below w.heap.size w w'

set_option maxRecDepth 100000 in
set_option maxHeartbeats 4000000 in

theorem Mid15_is (X : Int) (Y : Int) (X2 : Int) (Y2 : Int)  (R0 : Int) (R1 : Int) (hR0 : mdN X Y X2 Y2 = R0) (hR1 : mdD X Y X2 Y2 = R1)  (nX : Bool) (aX : Option Addr) (lX cX : Nat) (nY : Bool) (aY : Option Addr) (lY cY : Nat) (nX2 : Bool) (aX2 : Option Addr) (lX2 cX2 : Nat) (nY2 : Bool) (aY2 : Option Addr) (lY2 cY2 : Nat) (w : World) (hX : Big w (.agg #[.bool nX, .slice aX lX cX]) X 18) (hY : Big w (.agg #[.bool nY, .slice aY lY cY]) Y 18) (hX2 : Big w (.agg #[.bool nX2, .slice aX2 lX2 cX2]) X2 18) (hY2 : Big w (.agg #[.bool nY2, .slice aY2 lY2 cY2]) Y2 18) :
    Calls Try.prog 97 #[.agg #[.bool nX, .slice aX lX cX, .bool nY, .slice aY lY cY], .agg #[.bool nX2, .slice aX2 lX2 cX2, .bool nY2, .slice aY2 lY2 cY2]] w (Mid15_is_post w R0 R1) := by

  have HX := Lib.hid hX
  clear hX
  have HY := Lib.hid hY
  clear hY
  have HX2 := Lib.hid hX2
  clear hX2
  have HY2 := Lib.hid hY2
  clear hY2
  have HR0 := Lib.hid hR0
  clear hR0
  have HR1 := Lib.hid hR1
  clear hR1
  go_enter Try.func97, Try.ntmps97
  go_wp2_with fail
  first | refine calls_w ?_ | refine name_world ?_ | refine list_world ?_ | refine post_world ?_
  intro V1 hV1
  have hn : Below w.heap.size w V1 := by rw [hV1]; exact below_a3 _ _ _ _
  replace HX := Lib.hid (HX.out.of hn)
  replace HY := Lib.hid (HY.out.of hn)
  replace HX2 := Lib.hid (HX2.out.of hn)
  replace HY2 := Lib.hid (HY2.out.of hn)
  have nhb0 := hn
  have k1 : Blk V1 w.heap.size #[.bool nX, .slice aX lX cX, .bool nY, .slice aY lY cY] 60 := by rw [hV1]; exact (((Blk.new _ _ _).alloc _).alloc _)
  have k2 : Blk V1 (w.heap.size + 1) #[.bool nX2, .slice aX2 lX2 cX2, .bool nY2, .slice aY2 lY2 cY2] 60 := by rw [hV1]; exact ((Blk.new1 _ _ _ _).alloc _)
  have k3 : Blk V1 (w.heap.size + 1 + 1) #[.bool false, .slice none 0 0, .bool false, .slice none 0 0] 60 := by rw [hV1]; exact (Blk.new2 _ _ _ _ _)
  clear hV1
  have hb0 := nhb0
  clear nhb0
  obtain ⟨r1, hr1⟩ : ∃ o_o : Int, X * Y2 = o_o := ⟨_, rfl⟩
  have Hr1 := Lib.hid hr1
  clear hr1
  obtain ⟨r2, hr2⟩ : ∃ o_o : Int, X2 * Y = o_o := ⟨_, rfl⟩
  have Hr2 := Lib.hid hr2
  clear hr2
  obtain ⟨r3, hr3⟩ : ∃ o_o : Int, r1 + r2 = o_o := ⟨_, rfl⟩
  have Hr3 := Lib.hid hr3
  clear hr3
  have c1_0 : V1.cell? ⟨w.heap.size, 0, none⟩ = some (.bool nX) := k1.cell 0
  have c1_1 : V1.cell? ⟨w.heap.size, 1, none⟩ = some (.slice aX lX cX) := k1.cell 1
  have c1_2 : V1.cell? ⟨w.heap.size, 2, none⟩ = some (.bool nY) := k1.cell 2
  have c1_3 : V1.cell? ⟨w.heap.size, 3, none⟩ = some (.slice aY lY cY) := k1.cell 3
  have l1 := k1.lt
  have c2_0 : V1.cell? ⟨(w.heap.size + 1), 0, none⟩ = some (.bool nX2) := k2.cell 0
  have c2_1 : V1.cell? ⟨(w.heap.size + 1), 1, none⟩ = some (.slice aX2 lX2 cX2) := k2.cell 1
  have c2_2 : V1.cell? ⟨(w.heap.size + 1), 2, none⟩ = some (.bool nY2) := k2.cell 2
  have c2_3 : V1.cell? ⟨(w.heap.size + 1), 3, none⟩ = some (.slice aY2 lY2 cY2) := k2.cell 3
  have l2 := k2.lt
  have Kk1 := Lib.hid k1
  clear k1
  have Kk2 := Lib.hid k2
  clear k2
  have Kk3 := Lib.hid k3
  clear k3
  refine wp_region_float1 12 11 [(true, 0), (true, 1), (true, 2), (true, 3), (true, 5), (true, 6), (true, 7), (true, 8), (false, 4), (false, 9), (false, 10)] (by kernel_rfl) (by kernel_rfl) (fun _ _ d _ _ => by cases d <;> exact Iff.rfl) rfl rfl rfl alPcF_0 ?_
  have hb : Below V1.heap.size V1 V1.drew := (Below.refl _ _).drew
  iterate 8
    refine wpF_take rfl rfl ?_
    go_big_quiet_step (rfl)
    refine wpQuiet_nil ?_
  refine wpF_do rfl ?_
  intro w1 hg K hK
  replace hb := hb.trans (hg.mono hb.size)
  try replace HB1 := Lib.hid (HB1.out.of hg); try replace HB2 := Lib.hid (HB2.out.of hg); try replace HB3 := Lib.hid (HB3.out.of hg)
  clear hg
  go_wp2_with ((first | (go_at_call 65; (with_reducible refine (bigMul_v (.agg #[.bool nX, .slice aX lX cX]) (.agg #[.bool nY2, .slice aY2 lY2 cY2]) X Y2 r1 18 18 Hr1.out _ (HX.out.of hb) (HY2.out.of hb) (by decide)).mono ?_); rintro e w2 ⟨v_, rfl, hbm, hn⟩; have HB1 := Lib.hid hbm; have hvm := hbm.shape; clear hbm; obtain ⟨bn1, ba1, bl1, bc1, rfl⟩ := hvm) | (go_at_call 65; (with_reducible refine (bigMul_v (.agg #[.bool nX2, .slice aX2 lX2 cX2]) (.agg #[.bool nY, .slice aY lY cY]) X2 Y r2 18 18 Hr2.out _ (HX2.out.of hb) (HY.out.of hb) (by decide)).mono ?_); rintro e w2 ⟨v_, rfl, hbm, hn⟩; replace HB1 := Lib.hid (HB1.out.of hn); have HB2 := Lib.hid hbm; have hvm := hbm.shape; clear hbm; obtain ⟨bn2, ba2, bl2, bc2, rfl⟩ := hvm)))
  refine hK.out _ _ hn ?_
  replace hb := hb.trans (hn.mono hb.size)
  clear hK K
  clear hn
  refine wpF_do rfl ?_
  intro w1 hg K hK
  replace hb := hb.trans (hg.mono hb.size)
  try replace HB1 := Lib.hid (HB1.out.of hg); try replace HB2 := Lib.hid (HB2.out.of hg); try replace HB3 := Lib.hid (HB3.out.of hg)
  clear hg
  go_wp2_with ((first | (go_at_call 65; (with_reducible refine (bigMul_v (.agg #[.bool nX, .slice aX lX cX]) (.agg #[.bool nY2, .slice aY2 lY2 cY2]) X Y2 r1 18 18 Hr1.out _ (HX.out.of hb) (HY2.out.of hb) (by decide)).mono ?_); rintro e w2 ⟨v_, rfl, hbm, hn⟩; have HB1 := Lib.hid hbm; have hvm := hbm.shape; clear hbm; obtain ⟨bn1, ba1, bl1, bc1, rfl⟩ := hvm) | (go_at_call 65; (with_reducible refine (bigMul_v (.agg #[.bool nX2, .slice aX2 lX2 cX2]) (.agg #[.bool nY, .slice aY lY cY]) X2 Y r2 18 18 Hr2.out _ (HX2.out.of hb) (HY.out.of hb) (by decide)).mono ?_); rintro e w2 ⟨v_, rfl, hbm, hn⟩; replace HB1 := Lib.hid (HB1.out.of hn); have HB2 := Lib.hid hbm; have hvm := hbm.shape; clear hbm; obtain ⟨bn2, ba2, bl2, bc2, rfl⟩ := hvm)))
  refine hK.out _ _ hn ?_
  replace hb := hb.trans (hn.mono hb.size)
  clear hK K
  clear hn
  refine wpF_do rfl ?_
  intro w1 hg K hK
  replace hb := hb.trans (hg.mono hb.size)
  try replace HB1 := Lib.hid (HB1.out.of hg); try replace HB2 := Lib.hid (HB2.out.of hg); try replace HB3 := Lib.hid (HB3.out.of hg)
  clear hg
  go_wp2_with ((go_at_call 18; (with_reducible refine (bigAdd_v (.agg #[.bool bn1, .slice ba1 bl1 bc1]) (.agg #[.bool bn2, .slice ba2 bl2 bc2]) r1 r2 r3 36 Hr3.out _ HB1.out HB2.out (by decide)).mono ?_); rintro e w2 ⟨v_, rfl, hbm, hn⟩; replace HB1 := Lib.hid (HB1.out.of hn); replace HB2 := Lib.hid (HB2.out.of hn); have HB3 := Lib.hid hbm; have hvm := hbm.shape; clear hbm; obtain ⟨bn3, ba3, bl3, bc3, rfl⟩ := hvm))
  refine hK.out _ _ hn ?_
  replace hb := hb.trans (hn.mono hb.size)
  clear hK K
  clear hn
  refine wpF_nil ?_
  clear hb
  intro w1 hg hb b1 lb1 nb1
  replace HB1 := Lib.hid (HB1.out.of hg)
  replace HB2 := Lib.hid (HB2.out.of hg)
  replace HB3 := Lib.hid (HB3.out.of hg)
  clear hg
  simp only [Act.put, ptrTo, List.setIfInBounds_toArray, List.set_cons_succ, List.set_cons_zero]
  simp only [List.drop_succ_cons, List.drop_zero]
  clear c1_0 c1_1 c1_2 c1_3 l1 c2_0 c2_1 c2_2 c2_3 l2
  first | refine calls_w ?_ | refine name_world ?_ | refine list_world ?_ | refine post_world ?_
  intro U2 hU2
  subst hU2
  have D1 := Lib.hid Kk1.out.lt
  have D2 := Lib.hid Kk2.out.lt
  have D3 := Lib.hid Kk3.out.lt
  have D4 := Lib.hid hb0.size
  have k4 : Blk U2 b1 #[.bool false, .slice none 0 0] 28 := nb1
  have k1 := Kk1.out.of hb
  clear Kk1
  have k2 := Kk2.out.of hb
  clear Kk2
  have k3 := Kk3.out.of hb
  clear Kk3
  have D5 := Lib.hid lb1
  clear nb1 lb1
  replace HX := Lib.hid (HX.out.of hb)
  replace HY := Lib.hid (HY.out.of hb)
  replace HX2 := Lib.hid (HX2.out.of hb)
  replace HY2 := Lib.hid (HY2.out.of hb)
  replace hb0 := hb0.trans (hb.mono hb0.size)
  clear hb
  generalize b1 = q4 at *
  have c1_2 : U2.cell? ⟨w.heap.size, 2, none⟩ = some (.bool nY) := k1.cell 2
  have c1_3 : U2.cell? ⟨w.heap.size, 3, none⟩ = some (.slice aY lY cY) := k1.cell 3
  have l1 := k1.lt
  have c2_2 : U2.cell? ⟨(w.heap.size + 1), 2, none⟩ = some (.bool nY2) := k2.cell 2
  have c2_3 : U2.cell? ⟨(w.heap.size + 1), 3, none⟩ = some (.slice aY2 lY2 cY2) := k2.cell 3
  have l2 := k2.lt
  have c4_0 : U2.cell? ⟨q4, 0, none⟩ = some (.bool false) := k4.cell 0
  have c4_1 : U2.cell? ⟨q4, 1, none⟩ = some (.slice none 0 0) := k4.cell 1
  have f4_0 := k4.free 0
  have f4_1 := k4.free 1
  have l4 := k4.lt
  have p1_4 : w.heap.size ≠ q4 := (by have := D1.out; have := D5.out; omega)
  have p2_4 : (w.heap.size + 1) ≠ q4 := (by have := D2.out; have := D5.out; omega)
  go_wp2_with fail
  clear c1_2 c1_3 l1 c2_2 c2_3 l2 c4_0 c4_1 f4_0 f4_1 l4 p1_4 p2_4
  first | refine calls_w ?_ | refine name_world ?_ | refine list_world ?_ | refine post_world ?_
  intro V3 hV3
  clear HX HX2 HB1 HB2
  clear k1 k2
  have D6 := Lib.hid k3.lt
  have D7 := Lib.hid k4.lt
  have D8 := Lib.hid hb0.size
  have nk3 : Blk V3 (w.heap.size + 1 + 1) #[.bool false, .slice none 0 0, .bool false, .slice none 0 0] 60 := by rw [hV3]; exact (blk_setL k3 (by have := D3.out; have := D5.out; omega) 0 [.bool bn3, .slice ba3 bl3 bc3])
  have nk4 : Blk V3 q4 #[.bool bn3, .slice ba3 bl3 bc3] 28 := by rw [hV3]; exact (blk_full _ [.bool bn3, .slice ba3 bl3 bc3] k4 rfl)
  have nhb0 : Below w.heap.size w V3 := by rw [hV3]; exact (blw_setL hb0 (by have := D4.out; have := D5.out; omega) 0 [.bool bn3, .slice ba3 bl3 bc3])
  replace HY : Hid (Big V3 (.agg #[.bool nY, .slice aY lY cY]) Y 18) := Lib.hid (by rw [hV3]; exact (big_setL HY.out (Blk.cell k4 0) (fun _ h => by cases h) 0 [.bool bn3, .slice ba3 bl3 bc3]))
  replace HY2 : Hid (Big V3 (.agg #[.bool nY2, .slice aY2 lY2 cY2]) Y2 18) := Lib.hid (by rw [hV3]; exact (big_setL HY2.out (Blk.cell k4 0) (fun _ h => by cases h) 0 [.bool bn3, .slice ba3 bl3 bc3]))
  replace HB3 : Hid (Big V3 (.agg #[.bool bn3, .slice ba3 bl3 bc3]) r3 37) := Lib.hid (by rw [hV3]; exact (big_setL HB3.out (Blk.cell k4 0) (fun _ h => by cases h) 0 [.bool bn3, .slice ba3 bl3 bc3]))
  clear k3 k4
  clear hb0
  clear hV3
  have k3 := nk3
  clear nk3
  have k4 := nk4
  clear nk4
  have hb0 := nhb0
  clear nhb0
  obtain ⟨r4, hr4⟩ : ∃ o_o : Int, Y * Y2 = o_o := ⟨_, rfl⟩
  have Hr4 := Lib.hid hr4
  clear hr4
  refine (bigMul_v (.agg #[.bool nY, .slice aY lY cY]) (.agg #[.bool nY2, .slice aY2 lY2 cY2]) Y Y2 r4 18 18 Hr4.out _ HY.out HY2.out (by decide)).mono ?_
  rintro e U4 ⟨v_, rfl, hbm, hn⟩
  clear HY HY2
  replace k3 := k3.of hn
  replace k4 := k4.of hn
  replace HB3 := Lib.hid (HB3.out.of hn)
  replace hb0 := hb0.trans (hn.mono hb0.size)
  clear hn
  have HB4 := Lib.hid hbm
  have hvm := hbm.shape
  clear hbm
  obtain ⟨bn4, ba4, bl4, bc4, rfl⟩ := hvm
  go_wp2_with fail
  first | refine calls_w ?_ | refine name_world ?_ | refine list_world ?_ | refine post_world ?_
  intro V5 hV5
  have D9 := Lib.hid k3.lt
  have D10 := Lib.hid k4.lt
  have D11 := Lib.hid hb0.size
  have hn : Below U4.heap.size U4 V5 := by rw [hV5]; exact below_a1 _ _
  have nk3 := k3.of hn
  have nk4 := k4.of hn
  replace HB3 := Lib.hid (HB3.out.of hn)
  replace HB4 := Lib.hid (HB4.out.of hn)
  have nhb0 := hb0.trans (hn.mono hb0.size)
  clear hn
  have k5 : Blk V5 U4.heap.size #[.bool bn4, .slice ba4 bl4 bc4] 28 := by rw [hV5]; exact (Blk.new _ _ _)
  clear k3 k4
  clear hb0
  clear hV5
  have k3 := nk3
  clear nk3
  have k4 := nk4
  clear nk4
  have hb0 := nhb0
  clear nhb0
  obtain ⟨r5, hr5⟩ : ∃ o_o : Int, r4 + r4 = o_o := ⟨_, rfl⟩
  have Hr5 := Lib.hid hr5
  clear hr5
  have c4_0 : V5.cell? ⟨q4, 0, none⟩ = some (.bool bn3) := k4.cell 0
  have c4_1 : V5.cell? ⟨q4, 1, none⟩ = some (.slice ba3 bl3 bc3) := k4.cell 1
  have l4 := k4.lt
  have c5_0 : V5.cell? ⟨U4.heap.size, 0, none⟩ = some (.bool bn4) := k5.cell 0
  have c5_1 : V5.cell? ⟨U4.heap.size, 1, none⟩ = some (.slice ba4 bl4 bc4) := k5.cell 1
  have l5 := k5.lt
  have Kk3 := Lib.hid k3
  clear k3
  have Kk4 := Lib.hid k4
  clear k4
  have Kk5 := Lib.hid k5
  clear k5
  refine wp_region_up V5.heap.size 4 [(true, 0), (true, 1), (true, 2), (false, 3)] (by kernel_rfl) (by kernel_rfl) (fun _ _ d _ _ h => by cases d <;> exact h) ?_
  have hb : Below V5.heap.size V5 V5.drew := (Below.refl _ _).drew
  iterate 3
    refine wpS_takeL rfl rfl ?_
    go_big_quiet_step (rfl)
    refine wpQuiet_nil ?_
  refine wpS_doL rfl ?_
  intro K hK
  go_wp2_with ((go_at_call 18; (with_reducible refine (bigAdd_v (.agg #[.bool bn4, .slice ba4 bl4 bc4]) (.agg #[.bool bn4, .slice ba4 bl4 bc4]) r4 r4 r5 36 Hr5.out _ (HB4.out.of hb) (HB4.out.of hb) (by decide)).mono ?_); rintro e w2 ⟨v_, rfl, hbm, hn⟩; have HB5 := Lib.hid hbm; have hvm := hbm.shape; clear hbm; obtain ⟨bn5, ba5, bl5, bc5, rfl⟩ := hvm))
  replace hb := hb.trans (hn.mono hb.size)
  refine hK.out _ _ (up_iff.2 hb) ?_
  clear hK K
  clear hn
  refine wpS_nil ?_
  simp only [List.drop_succ_cons, List.drop_zero]
  first | refine calls_w ?_ | refine name_world ?_ | refine list_world ?_ | refine post_world ?_
  intro U6 hU6
  first | (subst hU6; have u_ := U6; clear u_) | (rw [← hU6] at hb; clear hU6)
  clear c4_0 c4_1 l4 c5_0 c5_1 l5
  have k3 := Kk3.out.of hb
  clear Kk3
  have k4 := Kk4.out.of hb
  clear Kk4
  have k5 := Kk5.out.of hb
  clear Kk5
  replace HB3 := Lib.hid (HB3.out.of hb)
  replace HB4 := Lib.hid (HB4.out.of hb)
  replace hb0 := hb0.trans (hb.mono hb0.size)
  clear hb
  have c3_0 : U6.cell? ⟨(w.heap.size + 1 + 1), 0, none⟩ = some (.bool false) := k3.cell 0
  have c3_1 : U6.cell? ⟨(w.heap.size + 1 + 1), 1, none⟩ = some (.slice none 0 0) := k3.cell 1
  have c3_2 : U6.cell? ⟨(w.heap.size + 1 + 1), 2, none⟩ = some (.bool false) := k3.cell 2
  have c3_3 : U6.cell? ⟨(w.heap.size + 1 + 1), 3, none⟩ = some (.slice none 0 0) := k3.cell 3
  have f3_0 := k3.free 0
  have f3_1 := k3.free 1
  have f3_2 := k3.free 2
  have f3_3 := k3.free 3
  have l3 := k3.lt
  have e0 : r3 = R0 := by rw [← HR0.out]; unfold mdN; (try rw [Hr1.out]); (try rw [Hr2.out]); (try rw [Hr3.out]); (try rw [Hr4.out]); (try rw [Hr5.out]); all_goals first | rfl | simp
  have e1 : r5 = R1 := by rw [← HR1.out]; unfold mdD; (try rw [Hr1.out]); (try rw [Hr2.out]); (try rw [Hr3.out]); (try rw [Hr4.out]); (try rw [Hr5.out]); all_goals first | rfl | simp
  subst e0
  subst e1
  go_wp2
  clear c3_0 c3_1 c3_2 c3_3 f3_0 f3_1 f3_2 f3_3 l3
  first | refine post_world ?_
  intro V7 hV7
  clear HB4
  clear k4 k5
  have D12 := Lib.hid k3.lt
  have D13 := Lib.hid hb0.size
  have nk3 : Blk V7 (w.heap.size + 1 + 1) #[.bool bn3, .slice ba3 bl3 bc3, .bool bn5, .slice ba5 bl5 bc5] 60 := by rw [hV7]; exact (blk_full _ [.bool bn3, .slice ba3 bl3 bc3, .bool bn5, .slice ba5 bl5 bc5] k3 rfl)
  have nhb0 : Below w.heap.size w V7 := by rw [hV7]; exact (blw_setL hb0 (by omega) 0 [.bool bn3, .slice ba3 bl3 bc3, .bool bn5, .slice ba5 bl5 bc5])
  replace HB3 : Hid (Big V7 (.agg #[.bool bn3, .slice ba3 bl3 bc3]) r3 37) := Lib.hid (by rw [hV7]; exact (big_setL HB3.out (Blk.cell k3 0) (fun _ h => by cases h) 0 [.bool bn3, .slice ba3 bl3 bc3, .bool bn5, .slice ba5 bl5 bc5]))
  replace HB5 : Hid (Big V7 (.agg #[.bool bn5, .slice ba5 bl5 bc5]) r5 37) := Lib.hid (by rw [hV7]; exact (big_setL HB5.out (Blk.cell k3 0) (fun _ h => by cases h) 0 [.bool bn3, .slice ba3 bl3 bc3, .bool bn5, .slice ba5 bl5 bc5]))
  clear k3
  clear hb0
  clear hV7
  have k3 := nk3
  clear nk3
  have hb0 := nhb0
  clear nhb0
  have g3_0 : V7.cell? ⟨(w.heap.size + 1 + 1), 0, none⟩ = some (.bool bn3) := k3.cell 0
  have g3_1 : V7.cell? ⟨(w.heap.size + 1 + 1), 1, none⟩ = some (.slice ba3 bl3 bc3) := k3.cell 1
  have g3_2 : V7.cell? ⟨(w.heap.size + 1 + 1), 2, none⟩ = some (.bool bn5) := k3.cell 2
  have g3_3 : V7.cell? ⟨(w.heap.size + 1 + 1), 3, none⟩ = some (.slice ba5 bl5 bc5) := k3.cell 3
  clear k3
  simp [bodyPost, results, Try.results97, go_sem, g3_0, g3_1, g3_2, g3_3]
  exact ⟨_, _, _, _, _, _, _, _, rfl, (HB3.out.mono (by decide)), (HB5.out.mono (by decide)), hb0⟩

def a15X (ax : Int) (_ay : Int) (bx : Int) (_b_y : Int) (N : Int) (D : Int) : Int := ((ax * D) + (((wrap64 (bx - ax))) * N))

def a15Y (_ax : Int) (ay : Int) (_bx : Int) (b_y : Int) (N : Int) (D : Int) : Int := ((ay * D) + (((wrap64 (b_y - ay))) * N))

def a15W (_ax : Int) (_ay : Int) (_bx : Int) (_b_y : Int) (_N : Int) (D : Int) : Int := D

def At15_is_post (w : World) (R0 : Int) (R1 : Int) (R2 : Int) (e : Ending) (w' : World) : Prop := ∃ (m0 : Bool) (p0 : Option Addr) (q0 t0 : Nat) (m1 : Bool) (p1 : Option Addr) (q1 t1 : Nat) (m2 : Bool) (p2 : Option Addr) (q2 t2 : Nat), e = .returned (.agg #[.bool m0, .slice p0 q0 t0, .bool m1, .slice p1 q1 t1, .bool m2, .slice p2 q2 t2]) ∧ Big w' (.agg #[.bool m0, .slice p0 q0 t0]) R0 46 ∧ Big w' (.agg #[.bool m1, .slice p1 q1 t1]) R1 46 ∧ Big w' (.agg #[.bool m2, .slice p2 q2 t2]) R2 40 ∧ Below w.heap.size w w'

set_option maxRecDepth 100000 in
set_option maxHeartbeats 4000000 in

theorem At15_is (ax : Int) (ay : Int) (bx : Int) (b_y : Int) (N : Int) (D : Int)  (R0 : Int) (R1 : Int) (R2 : Int) (hR0 : a15X ax ay bx b_y N D = R0) (hR1 : a15Y ax ay bx b_y N D = R1) (hR2 : a15W ax ay bx b_y N D = R2) (_iax : In64 ax) (_iay : In64 ay) (_ibx : In64 bx) (_ib_y : In64 b_y) (nN : Bool) (aN : Option Addr) (lN cN : Nat) (nD : Bool) (aD : Option Addr) (lD cD : Nat) (w : World) (hN : Big w (.agg #[.bool nN, .slice aN lN cN]) N 40) (hD : Big w (.agg #[.bool nD, .slice aD lD cD]) D 40) :
    Calls Try.prog 96 #[.agg #[.int .i64 ax, .int .i64 ay], .agg #[.int .i64 bx, .int .i64 b_y], .agg #[.bool nN, .slice aN lN cN, .bool nD, .slice aD lD cD]] w (At15_is_post w R0 R1 R2) := by

  have HN := Lib.hid hN
  clear hN
  have HD := Lib.hid hD
  clear hD
  have HR0 := Lib.hid hR0
  clear hR0
  have HR1 := Lib.hid hR1
  clear hR1
  have HR2 := Lib.hid hR2
  clear hR2
  go_enter Try.func96, Try.ntmps96
  go_wp2_with fail
  first | refine calls_w ?_ | refine name_world ?_ | refine list_world ?_ | refine post_world ?_
  intro V1 hV1
  have hn : Below w.heap.size w V1 := by rw [hV1]; exact below_a4 _ _ _ _ _
  replace HN := Lib.hid (HN.out.of hn)
  replace HD := Lib.hid (HD.out.of hn)
  have nhb0 := hn
  have k1 : Blk V1 w.heap.size #[.int .i64 ax, .int .i64 ay] 31 := by rw [hV1]; exact ((((Blk.new _ _ _).alloc _).alloc _).alloc _)
  have k2 : Blk V1 (w.heap.size + 1) #[.int .i64 bx, .int .i64 b_y] 31 := by rw [hV1]; exact (((Blk.new1 _ _ _ _).alloc _).alloc _)
  have k3 : Blk V1 (w.heap.size + 1 + 1) #[.bool nN, .slice aN lN cN, .bool nD, .slice aD lD cD] 60 := by rw [hV1]; exact ((Blk.new2 _ _ _ _ _).alloc _)
  have k4 : Blk V1 (w.heap.size + 1 + 1 + 1) #[.bool false, .slice none 0 0, .bool false, .slice none 0 0, .bool false, .slice none 0 0] 72 := by rw [hV1]; exact (Blk.new3 _ _ _ _ _ _)
  clear hV1
  have hb0 := nhb0
  clear nhb0
  obtain ⟨r1, hr1⟩ : ∃ o_o : Int, ax * D = o_o := ⟨_, rfl⟩
  have Hr1 := Lib.hid hr1
  clear hr1
  obtain ⟨r2, hr2⟩ : ∃ o_o : Int, (wrap64 (bx - ax)) = o_o := ⟨_, rfl⟩
  have Hr2 := Lib.hid hr2
  clear hr2
  obtain ⟨r3, hr3⟩ : ∃ o_o : Int, r2 * N = o_o := ⟨_, rfl⟩
  have Hr3 := Lib.hid hr3
  clear hr3
  obtain ⟨r4, hr4⟩ : ∃ o_o : Int, r1 + r3 = o_o := ⟨_, rfl⟩
  have Hr4 := Lib.hid hr4
  clear hr4
  have c1_0 : V1.cell? ⟨w.heap.size, 0, none⟩ = some (.int .i64 ax) := k1.cell 0
  have l1 := k1.lt
  have c2_0 : V1.cell? ⟨(w.heap.size + 1), 0, none⟩ = some (.int .i64 bx) := k2.cell 0
  have l2 := k2.lt
  have c3_0 : V1.cell? ⟨(w.heap.size + 1 + 1), 0, none⟩ = some (.bool nN) := k3.cell 0
  have c3_1 : V1.cell? ⟨(w.heap.size + 1 + 1), 1, none⟩ = some (.slice aN lN cN) := k3.cell 1
  have c3_2 : V1.cell? ⟨(w.heap.size + 1 + 1), 2, none⟩ = some (.bool nD) := k3.cell 2
  have c3_3 : V1.cell? ⟨(w.heap.size + 1 + 1), 3, none⟩ = some (.slice aD lD cD) := k3.cell 3
  have l3 := k3.lt
  have Kk1 := Lib.hid k1
  clear k1
  have Kk2 := Lib.hid k2
  clear k2
  have Kk3 := Lib.hid k3
  clear k3
  have Kk4 := Lib.hid k4
  clear k4
  refine wp_region_float1 17 16 [(true, 0), (true, 1), (true, 3), (true, 4), (true, 6), (true, 7), (true, 8), (true, 9), (true, 10), (true, 12), (true, 13), (false, 2), (false, 5), (false, 11), (false, 14), (false, 15)] (by kernel_rfl) (by kernel_rfl) (fun _ _ d _ _ => by cases d <;> exact Iff.rfl) rfl rfl rfl alPcF_0 ?_
  have hb : Below V1.heap.size V1 V1.drew := (Below.refl _ _).drew
  iterate 11
    refine wpF_take rfl rfl ?_
    go_big_quiet_step (rfl)
    refine wpQuiet_nil ?_
  refine wpF_do rfl ?_
  intro w1 hg K hK
  replace hb := hb.trans (hg.mono hb.size)
  try replace HB1 := Lib.hid (HB1.out.of hg); try replace HB2 := Lib.hid (HB2.out.of hg); try replace HB3 := Lib.hid (HB3.out.of hg); try replace HB4 := Lib.hid (HB4.out.of hg); try replace HB5 := Lib.hid (HB5.out.of hg)
  clear hg
  go_wp2_with ((first | (go_at_call 66; (with_reducible refine (bigOf_v ax ax rfl _iax _).mono ?_); rintro e w2 ⟨v_, rfl, hbm, hn⟩; have HB1 := Lib.hid hbm; have hvm := hbm.shape; clear hbm; obtain ⟨bn1, ba1, bl1, bc1, rfl⟩ := hvm) | (go_at_call 66; (with_reducible refine (bigOf_v (wrap64 (bx - ax)) r2 Hr2.out (wrap64_in _) _).mono ?_); rintro e w2 ⟨v_, rfl, hbm, hn⟩; replace HB1 := Lib.hid (HB1.out.of hn); replace HB2 := Lib.hid (HB2.out.of hn); have HB3 := Lib.hid hbm; have hvm := hbm.shape; clear hbm; obtain ⟨bn3, ba3, bl3, bc3, rfl⟩ := hvm)))
  refine hK.out _ _ hn ?_
  replace hb := hb.trans (hn.mono hb.size)
  clear hK K
  clear hn
  refine wpF_do rfl ?_
  intro w1 hg K hK
  replace hb := hb.trans (hg.mono hb.size)
  try replace HB1 := Lib.hid (HB1.out.of hg); try replace HB2 := Lib.hid (HB2.out.of hg); try replace HB3 := Lib.hid (HB3.out.of hg); try replace HB4 := Lib.hid (HB4.out.of hg); try replace HB5 := Lib.hid (HB5.out.of hg)
  clear hg
  go_wp2_with ((first | (go_at_call 65; (with_reducible refine (bigMul_v (.agg #[.bool bn1, .slice ba1 bl1 bc1]) (.agg #[.bool nD, .slice aD lD cD]) ax D r1 5 40 Hr1.out _ HB1.out (HD.out.of hb) (by decide)).mono ?_); rintro e w2 ⟨v_, rfl, hbm, hn⟩; replace HB1 := Lib.hid (HB1.out.of hn); have HB2 := Lib.hid hbm; have hvm := hbm.shape; clear hbm; obtain ⟨bn2, ba2, bl2, bc2, rfl⟩ := hvm) | (go_at_call 65; (with_reducible refine (bigMul_v (.agg #[.bool bn3, .slice ba3 bl3 bc3]) (.agg #[.bool nN, .slice aN lN cN]) r2 N r3 5 40 Hr3.out _ HB3.out (HN.out.of hb) (by decide)).mono ?_); rintro e w2 ⟨v_, rfl, hbm, hn⟩; replace HB1 := Lib.hid (HB1.out.of hn); replace HB2 := Lib.hid (HB2.out.of hn); replace HB3 := Lib.hid (HB3.out.of hn); have HB4 := Lib.hid hbm; have hvm := hbm.shape; clear hbm; obtain ⟨bn4, ba4, bl4, bc4, rfl⟩ := hvm)))
  refine hK.out _ _ hn ?_
  replace hb := hb.trans (hn.mono hb.size)
  clear hK K
  clear hn
  refine wpF_do rfl ?_
  intro w1 hg K hK
  replace hb := hb.trans (hg.mono hb.size)
  try replace HB1 := Lib.hid (HB1.out.of hg); try replace HB2 := Lib.hid (HB2.out.of hg); try replace HB3 := Lib.hid (HB3.out.of hg); try replace HB4 := Lib.hid (HB4.out.of hg); try replace HB5 := Lib.hid (HB5.out.of hg)
  clear hg
  go_wp2_with ((first | (go_at_call 66; (with_reducible refine (bigOf_v ax ax rfl _iax _).mono ?_); rintro e w2 ⟨v_, rfl, hbm, hn⟩; have HB1 := Lib.hid hbm; have hvm := hbm.shape; clear hbm; obtain ⟨bn1, ba1, bl1, bc1, rfl⟩ := hvm) | (go_at_call 66; (with_reducible refine (bigOf_v (wrap64 (bx - ax)) r2 Hr2.out (wrap64_in _) _).mono ?_); rintro e w2 ⟨v_, rfl, hbm, hn⟩; replace HB1 := Lib.hid (HB1.out.of hn); replace HB2 := Lib.hid (HB2.out.of hn); have HB3 := Lib.hid hbm; have hvm := hbm.shape; clear hbm; obtain ⟨bn3, ba3, bl3, bc3, rfl⟩ := hvm)))
  refine hK.out _ _ hn ?_
  replace hb := hb.trans (hn.mono hb.size)
  clear hK K
  clear hn
  refine wpF_do rfl ?_
  intro w1 hg K hK
  replace hb := hb.trans (hg.mono hb.size)
  try replace HB1 := Lib.hid (HB1.out.of hg); try replace HB2 := Lib.hid (HB2.out.of hg); try replace HB3 := Lib.hid (HB3.out.of hg); try replace HB4 := Lib.hid (HB4.out.of hg); try replace HB5 := Lib.hid (HB5.out.of hg)
  clear hg
  go_wp2_with ((first | (go_at_call 65; (with_reducible refine (bigMul_v (.agg #[.bool bn1, .slice ba1 bl1 bc1]) (.agg #[.bool nD, .slice aD lD cD]) ax D r1 5 40 Hr1.out _ HB1.out (HD.out.of hb) (by decide)).mono ?_); rintro e w2 ⟨v_, rfl, hbm, hn⟩; replace HB1 := Lib.hid (HB1.out.of hn); have HB2 := Lib.hid hbm; have hvm := hbm.shape; clear hbm; obtain ⟨bn2, ba2, bl2, bc2, rfl⟩ := hvm) | (go_at_call 65; (with_reducible refine (bigMul_v (.agg #[.bool bn3, .slice ba3 bl3 bc3]) (.agg #[.bool nN, .slice aN lN cN]) r2 N r3 5 40 Hr3.out _ HB3.out (HN.out.of hb) (by decide)).mono ?_); rintro e w2 ⟨v_, rfl, hbm, hn⟩; replace HB1 := Lib.hid (HB1.out.of hn); replace HB2 := Lib.hid (HB2.out.of hn); replace HB3 := Lib.hid (HB3.out.of hn); have HB4 := Lib.hid hbm; have hvm := hbm.shape; clear hbm; obtain ⟨bn4, ba4, bl4, bc4, rfl⟩ := hvm)))
  refine hK.out _ _ hn ?_
  replace hb := hb.trans (hn.mono hb.size)
  clear hK K
  clear hn
  refine wpF_do rfl ?_
  intro w1 hg K hK
  replace hb := hb.trans (hg.mono hb.size)
  try replace HB1 := Lib.hid (HB1.out.of hg); try replace HB2 := Lib.hid (HB2.out.of hg); try replace HB3 := Lib.hid (HB3.out.of hg); try replace HB4 := Lib.hid (HB4.out.of hg); try replace HB5 := Lib.hid (HB5.out.of hg)
  clear hg
  go_wp2_with ((go_at_call 18; (with_reducible refine (bigAdd_v (.agg #[.bool bn2, .slice ba2 bl2 bc2]) (.agg #[.bool bn4, .slice ba4 bl4 bc4]) r1 r3 r4 45 Hr4.out _ HB2.out HB4.out (by decide)).mono ?_); rintro e w2 ⟨v_, rfl, hbm, hn⟩; replace HB1 := Lib.hid (HB1.out.of hn); replace HB2 := Lib.hid (HB2.out.of hn); replace HB3 := Lib.hid (HB3.out.of hn); replace HB4 := Lib.hid (HB4.out.of hn); have HB5 := Lib.hid hbm; have hvm := hbm.shape; clear hbm; obtain ⟨bn5, ba5, bl5, bc5, rfl⟩ := hvm))
  refine hK.out _ _ hn ?_
  replace hb := hb.trans (hn.mono hb.size)
  clear hK K
  clear hn
  refine wpF_nil ?_
  clear hb
  intro w1 hg hb b1 lb1 nb1
  replace HB1 := Lib.hid (HB1.out.of hg)
  replace HB2 := Lib.hid (HB2.out.of hg)
  replace HB3 := Lib.hid (HB3.out.of hg)
  replace HB4 := Lib.hid (HB4.out.of hg)
  replace HB5 := Lib.hid (HB5.out.of hg)
  clear hg
  simp only [Act.put, ptrTo, List.setIfInBounds_toArray, List.set_cons_succ, List.set_cons_zero]
  simp only [List.drop_succ_cons, List.drop_zero]
  clear c1_0 l1 c2_0 l2 c3_0 c3_1 c3_2 c3_3 l3
  first | refine calls_w ?_ | refine name_world ?_ | refine list_world ?_ | refine post_world ?_
  intro U2 hU2
  subst hU2
  have D1 := Lib.hid Kk1.out.lt
  have D2 := Lib.hid Kk2.out.lt
  have D3 := Lib.hid Kk3.out.lt
  have D4 := Lib.hid Kk4.out.lt
  have D5 := Lib.hid hb0.size
  have k5 : Blk U2 b1 #[.bool false, .slice none 0 0] 28 := nb1
  have k1 := Kk1.out.of hb
  clear Kk1
  have k2 := Kk2.out.of hb
  clear Kk2
  have k3 := Kk3.out.of hb
  clear Kk3
  have k4 := Kk4.out.of hb
  clear Kk4
  have D6 := Lib.hid lb1
  clear nb1 lb1
  replace HN := Lib.hid (HN.out.of hb)
  replace HD := Lib.hid (HD.out.of hb)
  replace hb0 := hb0.trans (hb.mono hb0.size)
  clear hb
  generalize b1 = q5 at *
  have c5_0 : U2.cell? ⟨q5, 0, none⟩ = some (.bool false) := k5.cell 0
  have c5_1 : U2.cell? ⟨q5, 1, none⟩ = some (.slice none 0 0) := k5.cell 1
  have f5_0 := k5.free 0
  have f5_1 := k5.free 1
  have l5 := k5.lt
  go_wp2_with fail
  clear c5_0 c5_1 f5_0 f5_1 l5
  first | refine calls_w ?_ | refine name_world ?_ | refine list_world ?_ | refine post_world ?_
  intro V3 hV3
  clear HB1 HB2 HB3 HB4
  have D7 := Lib.hid k1.lt
  have D8 := Lib.hid k2.lt
  have D9 := Lib.hid k3.lt
  have D10 := Lib.hid k4.lt
  have D11 := Lib.hid k5.lt
  have D12 := Lib.hid hb0.size
  have nk1 : Blk V3 w.heap.size #[.int .i64 ax, .int .i64 ay] 31 := by rw [hV3]; exact (blk_setL k1 (by have := D1.out; have := D6.out; omega) 0 [.bool bn5, .slice ba5 bl5 bc5])
  have nk2 : Blk V3 (w.heap.size + 1) #[.int .i64 bx, .int .i64 b_y] 31 := by rw [hV3]; exact (blk_setL k2 (by have := D2.out; have := D6.out; omega) 0 [.bool bn5, .slice ba5 bl5 bc5])
  have nk3 : Blk V3 (w.heap.size + 1 + 1) #[.bool nN, .slice aN lN cN, .bool nD, .slice aD lD cD] 60 := by rw [hV3]; exact (blk_setL k3 (by have := D3.out; have := D6.out; omega) 0 [.bool bn5, .slice ba5 bl5 bc5])
  have nk4 : Blk V3 (w.heap.size + 1 + 1 + 1) #[.bool false, .slice none 0 0, .bool false, .slice none 0 0, .bool false, .slice none 0 0] 72 := by rw [hV3]; exact (blk_setL k4 (by have := D4.out; have := D6.out; omega) 0 [.bool bn5, .slice ba5 bl5 bc5])
  have nk5 : Blk V3 q5 #[.bool bn5, .slice ba5 bl5 bc5] 28 := by rw [hV3]; exact (blk_full _ [.bool bn5, .slice ba5 bl5 bc5] k5 rfl)
  have nhb0 : Below w.heap.size w V3 := by rw [hV3]; exact (blw_setL hb0 (by have := D5.out; have := D6.out; omega) 0 [.bool bn5, .slice ba5 bl5 bc5])
  replace HN : Hid (Big V3 (.agg #[.bool nN, .slice aN lN cN]) N 40) := Lib.hid (by rw [hV3]; exact (big_setL HN.out (Blk.cell k5 0) (fun _ h => by cases h) 0 [.bool bn5, .slice ba5 bl5 bc5]))
  replace HD : Hid (Big V3 (.agg #[.bool nD, .slice aD lD cD]) D 40) := Lib.hid (by rw [hV3]; exact (big_setL HD.out (Blk.cell k5 0) (fun _ h => by cases h) 0 [.bool bn5, .slice ba5 bl5 bc5]))
  replace HB5 : Hid (Big V3 (.agg #[.bool bn5, .slice ba5 bl5 bc5]) r4 46) := Lib.hid (by rw [hV3]; exact (big_setL HB5.out (Blk.cell k5 0) (fun _ h => by cases h) 0 [.bool bn5, .slice ba5 bl5 bc5]))
  clear k1 k2 k3 k4 k5
  clear hb0
  clear hV3
  have k1 := nk1
  clear nk1
  have k2 := nk2
  clear nk2
  have k3 := nk3
  clear nk3
  have k4 := nk4
  clear nk4
  have k5 := nk5
  clear nk5
  have hb0 := nhb0
  clear nhb0
  obtain ⟨r5, hr5⟩ : ∃ o_o : Int, ay * D = o_o := ⟨_, rfl⟩
  have Hr5 := Lib.hid hr5
  clear hr5
  obtain ⟨r6, hr6⟩ : ∃ o_o : Int, (wrap64 (b_y - ay)) = o_o := ⟨_, rfl⟩
  have Hr6 := Lib.hid hr6
  clear hr6
  obtain ⟨r7, hr7⟩ : ∃ o_o : Int, r6 * N = o_o := ⟨_, rfl⟩
  have Hr7 := Lib.hid hr7
  clear hr7
  obtain ⟨r8, hr8⟩ : ∃ o_o : Int, r5 + r7 = o_o := ⟨_, rfl⟩
  have Hr8 := Lib.hid hr8
  clear hr8
  have c1_1 : V3.cell? ⟨w.heap.size, 1, none⟩ = some (.int .i64 ay) := k1.cell 1
  have l1 := k1.lt
  have c2_1 : V3.cell? ⟨(w.heap.size + 1), 1, none⟩ = some (.int .i64 b_y) := k2.cell 1
  have l2 := k2.lt
  have c3_0 : V3.cell? ⟨(w.heap.size + 1 + 1), 0, none⟩ = some (.bool nN) := k3.cell 0
  have c3_1 : V3.cell? ⟨(w.heap.size + 1 + 1), 1, none⟩ = some (.slice aN lN cN) := k3.cell 1
  have c3_2 : V3.cell? ⟨(w.heap.size + 1 + 1), 2, none⟩ = some (.bool nD) := k3.cell 2
  have c3_3 : V3.cell? ⟨(w.heap.size + 1 + 1), 3, none⟩ = some (.slice aD lD cD) := k3.cell 3
  have l3 := k3.lt
  have Kk1 := Lib.hid k1
  clear k1
  have Kk2 := Lib.hid k2
  clear k2
  have Kk3 := Lib.hid k3
  clear k3
  have Kk4 := Lib.hid k4
  clear k4
  have Kk5 := Lib.hid k5
  clear k5
  refine wp_region_float1 17 16 [(true, 0), (true, 1), (true, 3), (true, 4), (true, 6), (true, 7), (true, 8), (true, 9), (true, 10), (true, 12), (true, 13), (false, 2), (false, 5), (false, 11), (false, 14), (false, 15)] (by kernel_rfl) (by kernel_rfl) (fun _ _ d _ _ => by cases d <;> exact Iff.rfl) rfl rfl rfl alPcF_0 ?_
  have hb : Below V3.heap.size V3 V3.drew := (Below.refl _ _).drew
  iterate 11
    refine wpF_take rfl rfl ?_
    go_big_quiet_step (rfl)
    refine wpQuiet_nil ?_
  refine wpF_do rfl ?_
  intro w1 hg K hK
  replace hb := hb.trans (hg.mono hb.size)
  try replace HB6 := Lib.hid (HB6.out.of hg); try replace HB7 := Lib.hid (HB7.out.of hg); try replace HB8 := Lib.hid (HB8.out.of hg); try replace HB9 := Lib.hid (HB9.out.of hg); try replace HB10 := Lib.hid (HB10.out.of hg)
  clear hg
  go_wp2_with ((first | (go_at_call 66; (with_reducible refine (bigOf_v ay ay rfl _iay _).mono ?_); rintro e w2 ⟨v_, rfl, hbm, hn⟩; have HB6 := Lib.hid hbm; have hvm := hbm.shape; clear hbm; obtain ⟨bn6, ba6, bl6, bc6, rfl⟩ := hvm) | (go_at_call 66; (with_reducible refine (bigOf_v (wrap64 (b_y - ay)) r6 Hr6.out (wrap64_in _) _).mono ?_); rintro e w2 ⟨v_, rfl, hbm, hn⟩; replace HB6 := Lib.hid (HB6.out.of hn); replace HB7 := Lib.hid (HB7.out.of hn); have HB8 := Lib.hid hbm; have hvm := hbm.shape; clear hbm; obtain ⟨bn8, ba8, bl8, bc8, rfl⟩ := hvm)))
  refine hK.out _ _ hn ?_
  replace hb := hb.trans (hn.mono hb.size)
  clear hK K
  clear hn
  refine wpF_do rfl ?_
  intro w1 hg K hK
  replace hb := hb.trans (hg.mono hb.size)
  try replace HB6 := Lib.hid (HB6.out.of hg); try replace HB7 := Lib.hid (HB7.out.of hg); try replace HB8 := Lib.hid (HB8.out.of hg); try replace HB9 := Lib.hid (HB9.out.of hg); try replace HB10 := Lib.hid (HB10.out.of hg)
  clear hg
  go_wp2_with ((first | (go_at_call 65; (with_reducible refine (bigMul_v (.agg #[.bool bn6, .slice ba6 bl6 bc6]) (.agg #[.bool nD, .slice aD lD cD]) ay D r5 5 40 Hr5.out _ HB6.out (HD.out.of hb) (by decide)).mono ?_); rintro e w2 ⟨v_, rfl, hbm, hn⟩; replace HB6 := Lib.hid (HB6.out.of hn); have HB7 := Lib.hid hbm; have hvm := hbm.shape; clear hbm; obtain ⟨bn7, ba7, bl7, bc7, rfl⟩ := hvm) | (go_at_call 65; (with_reducible refine (bigMul_v (.agg #[.bool bn8, .slice ba8 bl8 bc8]) (.agg #[.bool nN, .slice aN lN cN]) r6 N r7 5 40 Hr7.out _ HB8.out (HN.out.of hb) (by decide)).mono ?_); rintro e w2 ⟨v_, rfl, hbm, hn⟩; replace HB6 := Lib.hid (HB6.out.of hn); replace HB7 := Lib.hid (HB7.out.of hn); replace HB8 := Lib.hid (HB8.out.of hn); have HB9 := Lib.hid hbm; have hvm := hbm.shape; clear hbm; obtain ⟨bn9, ba9, bl9, bc9, rfl⟩ := hvm)))
  refine hK.out _ _ hn ?_
  replace hb := hb.trans (hn.mono hb.size)
  clear hK K
  clear hn
  refine wpF_do rfl ?_
  intro w1 hg K hK
  replace hb := hb.trans (hg.mono hb.size)
  try replace HB6 := Lib.hid (HB6.out.of hg); try replace HB7 := Lib.hid (HB7.out.of hg); try replace HB8 := Lib.hid (HB8.out.of hg); try replace HB9 := Lib.hid (HB9.out.of hg); try replace HB10 := Lib.hid (HB10.out.of hg)
  clear hg
  go_wp2_with ((first | (go_at_call 66; (with_reducible refine (bigOf_v ay ay rfl _iay _).mono ?_); rintro e w2 ⟨v_, rfl, hbm, hn⟩; have HB6 := Lib.hid hbm; have hvm := hbm.shape; clear hbm; obtain ⟨bn6, ba6, bl6, bc6, rfl⟩ := hvm) | (go_at_call 66; (with_reducible refine (bigOf_v (wrap64 (b_y - ay)) r6 Hr6.out (wrap64_in _) _).mono ?_); rintro e w2 ⟨v_, rfl, hbm, hn⟩; replace HB6 := Lib.hid (HB6.out.of hn); replace HB7 := Lib.hid (HB7.out.of hn); have HB8 := Lib.hid hbm; have hvm := hbm.shape; clear hbm; obtain ⟨bn8, ba8, bl8, bc8, rfl⟩ := hvm)))
  refine hK.out _ _ hn ?_
  replace hb := hb.trans (hn.mono hb.size)
  clear hK K
  clear hn
  refine wpF_do rfl ?_
  intro w1 hg K hK
  replace hb := hb.trans (hg.mono hb.size)
  try replace HB6 := Lib.hid (HB6.out.of hg); try replace HB7 := Lib.hid (HB7.out.of hg); try replace HB8 := Lib.hid (HB8.out.of hg); try replace HB9 := Lib.hid (HB9.out.of hg); try replace HB10 := Lib.hid (HB10.out.of hg)
  clear hg
  go_wp2_with ((first | (go_at_call 65; (with_reducible refine (bigMul_v (.agg #[.bool bn6, .slice ba6 bl6 bc6]) (.agg #[.bool nD, .slice aD lD cD]) ay D r5 5 40 Hr5.out _ HB6.out (HD.out.of hb) (by decide)).mono ?_); rintro e w2 ⟨v_, rfl, hbm, hn⟩; replace HB6 := Lib.hid (HB6.out.of hn); have HB7 := Lib.hid hbm; have hvm := hbm.shape; clear hbm; obtain ⟨bn7, ba7, bl7, bc7, rfl⟩ := hvm) | (go_at_call 65; (with_reducible refine (bigMul_v (.agg #[.bool bn8, .slice ba8 bl8 bc8]) (.agg #[.bool nN, .slice aN lN cN]) r6 N r7 5 40 Hr7.out _ HB8.out (HN.out.of hb) (by decide)).mono ?_); rintro e w2 ⟨v_, rfl, hbm, hn⟩; replace HB6 := Lib.hid (HB6.out.of hn); replace HB7 := Lib.hid (HB7.out.of hn); replace HB8 := Lib.hid (HB8.out.of hn); have HB9 := Lib.hid hbm; have hvm := hbm.shape; clear hbm; obtain ⟨bn9, ba9, bl9, bc9, rfl⟩ := hvm)))
  refine hK.out _ _ hn ?_
  replace hb := hb.trans (hn.mono hb.size)
  clear hK K
  clear hn
  refine wpF_do rfl ?_
  intro w1 hg K hK
  replace hb := hb.trans (hg.mono hb.size)
  try replace HB6 := Lib.hid (HB6.out.of hg); try replace HB7 := Lib.hid (HB7.out.of hg); try replace HB8 := Lib.hid (HB8.out.of hg); try replace HB9 := Lib.hid (HB9.out.of hg); try replace HB10 := Lib.hid (HB10.out.of hg)
  clear hg
  go_wp2_with ((go_at_call 18; (with_reducible refine (bigAdd_v (.agg #[.bool bn7, .slice ba7 bl7 bc7]) (.agg #[.bool bn9, .slice ba9 bl9 bc9]) r5 r7 r8 45 Hr8.out _ HB7.out HB9.out (by decide)).mono ?_); rintro e w2 ⟨v_, rfl, hbm, hn⟩; replace HB6 := Lib.hid (HB6.out.of hn); replace HB7 := Lib.hid (HB7.out.of hn); replace HB8 := Lib.hid (HB8.out.of hn); replace HB9 := Lib.hid (HB9.out.of hn); have HB10 := Lib.hid hbm; have hvm := hbm.shape; clear hbm; obtain ⟨bn10, ba10, bl10, bc10, rfl⟩ := hvm))
  refine hK.out _ _ hn ?_
  replace hb := hb.trans (hn.mono hb.size)
  clear hK K
  clear hn
  refine wpF_nil ?_
  clear hb
  intro w1 hg hb b1 lb1 nb1
  replace HB6 := Lib.hid (HB6.out.of hg)
  replace HB7 := Lib.hid (HB7.out.of hg)
  replace HB8 := Lib.hid (HB8.out.of hg)
  replace HB9 := Lib.hid (HB9.out.of hg)
  replace HB10 := Lib.hid (HB10.out.of hg)
  clear hg
  simp only [Act.put, ptrTo, List.setIfInBounds_toArray, List.set_cons_succ, List.set_cons_zero]
  simp only [List.drop_succ_cons, List.drop_zero]
  clear c1_1 l1 c2_1 l2 c3_0 c3_1 c3_2 c3_3 l3
  first | refine calls_w ?_ | refine name_world ?_ | refine list_world ?_ | refine post_world ?_
  intro U4 hU4
  subst hU4
  have D13 := Lib.hid Kk1.out.lt
  have D14 := Lib.hid Kk2.out.lt
  have D15 := Lib.hid Kk3.out.lt
  have D16 := Lib.hid Kk4.out.lt
  have D17 := Lib.hid Kk5.out.lt
  have D18 := Lib.hid hb0.size
  have k6 : Blk U4 b1 #[.bool false, .slice none 0 0] 28 := nb1
  have k1 := Kk1.out.of hb
  clear Kk1
  have k2 := Kk2.out.of hb
  clear Kk2
  have k3 := Kk3.out.of hb
  clear Kk3
  have k4 := Kk4.out.of hb
  clear Kk4
  have k5 := Kk5.out.of hb
  clear Kk5
  have D19 := Lib.hid lb1
  clear nb1 lb1
  replace HN := Lib.hid (HN.out.of hb)
  replace HD := Lib.hid (HD.out.of hb)
  replace HB5 := Lib.hid (HB5.out.of hb)
  replace hb0 := hb0.trans (hb.mono hb0.size)
  clear hb
  generalize b1 = q6 at *
  have c3_2 : U4.cell? ⟨(w.heap.size + 1 + 1), 2, none⟩ = some (.bool nD) := k3.cell 2
  have c3_3 : U4.cell? ⟨(w.heap.size + 1 + 1), 3, none⟩ = some (.slice aD lD cD) := k3.cell 3
  have l3 := k3.lt
  have c4_0 : U4.cell? ⟨(w.heap.size + 1 + 1 + 1), 0, none⟩ = some (.bool false) := k4.cell 0
  have c4_1 : U4.cell? ⟨(w.heap.size + 1 + 1 + 1), 1, none⟩ = some (.slice none 0 0) := k4.cell 1
  have c4_2 : U4.cell? ⟨(w.heap.size + 1 + 1 + 1), 2, none⟩ = some (.bool false) := k4.cell 2
  have c4_3 : U4.cell? ⟨(w.heap.size + 1 + 1 + 1), 3, none⟩ = some (.slice none 0 0) := k4.cell 3
  have c4_4 : U4.cell? ⟨(w.heap.size + 1 + 1 + 1), 4, none⟩ = some (.bool false) := k4.cell 4
  have c4_5 : U4.cell? ⟨(w.heap.size + 1 + 1 + 1), 5, none⟩ = some (.slice none 0 0) := k4.cell 5
  have f4_0 := k4.free 0
  have f4_1 := k4.free 1
  have f4_2 := k4.free 2
  have f4_3 := k4.free 3
  have f4_4 := k4.free 4
  have f4_5 := k4.free 5
  have l4 := k4.lt
  have c5_0 : U4.cell? ⟨q5, 0, none⟩ = some (.bool bn5) := k5.cell 0
  have c5_1 : U4.cell? ⟨q5, 1, none⟩ = some (.slice ba5 bl5 bc5) := k5.cell 1
  have l5 := k5.lt
  have c6_0 : U4.cell? ⟨q6, 0, none⟩ = some (.bool false) := k6.cell 0
  have c6_1 : U4.cell? ⟨q6, 1, none⟩ = some (.slice none 0 0) := k6.cell 1
  have f6_0 := k6.free 0
  have f6_1 := k6.free 1
  have l6 := k6.lt
  have p3_4 : (w.heap.size + 1 + 1) ≠ (w.heap.size + 1 + 1 + 1) := (by omega)
  have p3_6 : (w.heap.size + 1 + 1) ≠ q6 := (by have := D15.out; have := D19.out; omega)
  have p4_6 : (w.heap.size + 1 + 1 + 1) ≠ q6 := (by have := D16.out; have := D19.out; omega)
  have p5_4 : q5 ≠ (w.heap.size + 1 + 1 + 1) := (by have := D4.out; have := D6.out; omega)
  have p5_6 : q5 ≠ q6 := (by have := D17.out; have := D19.out; omega)
  have e0 : r4 = R0 := by rw [← HR0.out]; unfold a15X; (try rw [Hr1.out]); (try rw [Hr2.out]); (try rw [Hr3.out]); (try rw [Hr4.out]); (try rw [Hr5.out]); (try rw [Hr6.out]); (try rw [Hr7.out]); (try rw [Hr8.out]); all_goals first | rfl | simp
  have e1 : r8 = R1 := by rw [← HR1.out]; unfold a15Y; (try rw [Hr1.out]); (try rw [Hr2.out]); (try rw [Hr3.out]); (try rw [Hr4.out]); (try rw [Hr5.out]); (try rw [Hr6.out]); (try rw [Hr7.out]); (try rw [Hr8.out]); all_goals first | rfl | simp
  have e2 : D = R2 := by rw [← HR2.out]; unfold a15W; (try rw [Hr1.out]); (try rw [Hr2.out]); (try rw [Hr3.out]); (try rw [Hr4.out]); (try rw [Hr5.out]); (try rw [Hr6.out]); (try rw [Hr7.out]); (try rw [Hr8.out]); all_goals first | rfl | simp
  subst e0
  subst e1
  subst e2
  go_wp2
  clear c3_2 c3_3 l3 c4_0 c4_1 c4_2 c4_3 c4_4 c4_5 f4_0 f4_1 f4_2 f4_3 f4_4 f4_5 l4 c5_0 c5_1 l5 c6_0 c6_1 f6_0 f6_1 l6 p3_4 p3_6 p4_6 p5_4 p5_6
  first | refine post_world ?_
  intro V5 hV5
  clear HN HB6 HB7 HB8 HB9
  clear k1 k2 k3 k5
  have D20 := Lib.hid k4.lt
  have D21 := Lib.hid k6.lt
  have D22 := Lib.hid hb0.size
  have nk4 : Blk V5 (w.heap.size + 1 + 1 + 1) #[.bool bn5, .slice ba5 bl5 bc5, .bool bn10, .slice ba10 bl10 bc10, .bool nD, .slice aD lD cD] 72 := by rw [hV5]; exact (blk_full _ [.bool bn5, .slice ba5 bl5 bc5, .bool bn10, .slice ba10 bl10 bc10, .bool nD, .slice aD lD cD] (blk_setL k4 (by have := D16.out; have := D19.out; omega) 0 [.bool bn10, .slice ba10 bl10 bc10]) rfl)
  have nhb0 : Below w.heap.size w V5 := by rw [hV5]; exact (blw_setL (blw_setL hb0 (by have := D18.out; have := D19.out; omega) 0 [.bool bn10, .slice ba10 bl10 bc10]) (by omega) 0 [.bool bn5, .slice ba5 bl5 bc5, .bool bn10, .slice ba10 bl10 bc10, .bool nD, .slice aD lD cD])
  replace HD : Hid (Big V5 (.agg #[.bool nD, .slice aD lD cD]) D 40) := Lib.hid (by rw [hV5]; exact (big_setL (big_setL HD.out (Blk.cell k6 0) (fun _ h => by cases h) 0 [.bool bn10, .slice ba10 bl10 bc10]) (Blk.cell (blk_setL k4 (by have := D16.out; have := D19.out; omega) 0 [.bool bn10, .slice ba10 bl10 bc10]) 0) (fun _ h => by cases h) 0 [.bool bn5, .slice ba5 bl5 bc5, .bool bn10, .slice ba10 bl10 bc10, .bool nD, .slice aD lD cD]))
  replace HB5 : Hid (Big V5 (.agg #[.bool bn5, .slice ba5 bl5 bc5]) r4 46) := Lib.hid (by rw [hV5]; exact (big_setL (big_setL HB5.out (Blk.cell k6 0) (fun _ h => by cases h) 0 [.bool bn10, .slice ba10 bl10 bc10]) (Blk.cell (blk_setL k4 (by have := D16.out; have := D19.out; omega) 0 [.bool bn10, .slice ba10 bl10 bc10]) 0) (fun _ h => by cases h) 0 [.bool bn5, .slice ba5 bl5 bc5, .bool bn10, .slice ba10 bl10 bc10, .bool nD, .slice aD lD cD]))
  replace HB10 : Hid (Big V5 (.agg #[.bool bn10, .slice ba10 bl10 bc10]) r8 46) := Lib.hid (by rw [hV5]; exact (big_setL (big_setL HB10.out (Blk.cell k6 0) (fun _ h => by cases h) 0 [.bool bn10, .slice ba10 bl10 bc10]) (Blk.cell (blk_setL k4 (by have := D16.out; have := D19.out; omega) 0 [.bool bn10, .slice ba10 bl10 bc10]) 0) (fun _ h => by cases h) 0 [.bool bn5, .slice ba5 bl5 bc5, .bool bn10, .slice ba10 bl10 bc10, .bool nD, .slice aD lD cD]))
  clear k4
  clear k6
  clear hb0
  clear hV5
  have k4 := nk4
  clear nk4
  have hb0 := nhb0
  clear nhb0
  have g4_0 : V5.cell? ⟨(w.heap.size + 1 + 1 + 1), 0, none⟩ = some (.bool bn5) := k4.cell 0
  have g4_1 : V5.cell? ⟨(w.heap.size + 1 + 1 + 1), 1, none⟩ = some (.slice ba5 bl5 bc5) := k4.cell 1
  have g4_2 : V5.cell? ⟨(w.heap.size + 1 + 1 + 1), 2, none⟩ = some (.bool bn10) := k4.cell 2
  have g4_3 : V5.cell? ⟨(w.heap.size + 1 + 1 + 1), 3, none⟩ = some (.slice ba10 bl10 bc10) := k4.cell 3
  have g4_4 : V5.cell? ⟨(w.heap.size + 1 + 1 + 1), 4, none⟩ = some (.bool nD) := k4.cell 4
  have g4_5 : V5.cell? ⟨(w.heap.size + 1 + 1 + 1), 5, none⟩ = some (.slice aD lD cD) := k4.cell 5
  clear k4
  simp [bodyPost, results, Try.results96, go_sem, g4_0, g4_1, g4_2, g4_3, g4_4, g4_5]
  exact ⟨_, _, _, _, _, _, _, _, _, _, _, _, rfl, (HB5.out.mono (by decide)), (HB10.out.mono (by decide)), (HD.out.mono (by decide)), hb0⟩

def rinsL (X : Int) (Y : Int) (k : Int) (n : Int) : Bool := (bif decide (0 ≤ (cmpI (X + X) (((((wrap64 (2 * k))) * n) * Y) - (n * Y)))) then decide ((cmpI (X + X) (((((wrap64 (2 * k))) * n) * Y) + (n * Y))) < 0) else false)

set_option maxRecDepth 100000 in
set_option maxHeartbeats 4000000 in

theorem rinsL_is (X : Int) (Y : Int) (k : Int) (n : Int)  (R0 : Bool) (hR0 : rinsL X Y k n = R0) (_ik : In64 k) (_in : In64 n) (nX : Bool) (aX : Option Addr) (lX cX : Nat) (nY : Bool) (aY : Option Addr) (lY cY : Nat) (w : World) (hX : Big w (.agg #[.bool nX, .slice aX lX cX]) X 50) (hY : Big w (.agg #[.bool nY, .slice aY lY cY]) Y 50) :
    Calls Try.prog 99 #[.agg #[.bool nX, .slice aX lX cX], .agg #[.bool nY, .slice aY lY cY], .int .i64 k, .int .i64 n] w fun e w' => e = .returned (.bool R0) ∧ Below w.heap.size w w' := by

  have HX := Lib.hid hX
  clear hX
  have HY := Lib.hid hY
  clear hY
  have HR0 := Lib.hid hR0
  clear hR0
  go_enter Try.func99, Try.ntmps99
  go_wp2_with fail
  first | refine calls_w ?_ | refine name_world ?_ | refine list_world ?_ | refine post_world ?_
  intro V1 hV1
  have hn : Below w.heap.size w V1 := by rw [hV1]; exact below_a2 _ _ _
  replace HX := Lib.hid (HX.out.of hn)
  replace HY := Lib.hid (HY.out.of hn)
  have nhb0 := hn
  have k1 : Blk V1 w.heap.size #[.bool nX, .slice aX lX cX] 28 := by rw [hV1]; exact ((Blk.new _ _ _).alloc _)
  have k2 : Blk V1 (w.heap.size + 1) #[.bool nY, .slice aY lY cY] 28 := by rw [hV1]; exact (Blk.new1 _ _ _ _)
  clear hV1
  have hb0 := nhb0
  clear nhb0
  obtain ⟨r1, hr1⟩ : ∃ o_o : Int, X + X = o_o := ⟨_, rfl⟩
  have Hr1 := Lib.hid hr1
  clear hr1
  refine (bigAdd_v (.agg #[.bool nX, .slice aX lX cX]) (.agg #[.bool nX, .slice aX lX cX]) X X r1 50 Hr1.out _ HX.out HX.out (by decide)).mono ?_
  rintro e U2 ⟨v_, rfl, hbm, hn⟩
  clear HX
  clear k1
  replace k2 := k2.of hn
  replace HY := Lib.hid (HY.out.of hn)
  replace hb0 := hb0.trans (hn.mono hb0.size)
  clear hn
  have HB1 := Lib.hid hbm
  have hvm := hbm.shape
  clear hbm
  obtain ⟨bn1, ba1, bl1, bc1, rfl⟩ := hvm
  go_wp2_with fail
  first | refine calls_w ?_ | refine name_world ?_ | refine list_world ?_ | refine post_world ?_
  intro V3 hV3
  have D1 := Lib.hid k2.lt
  have D2 := Lib.hid hb0.size
  have hn : Below U2.heap.size U2 V3 := by rw [hV3]; exact below_a1 _ _
  have nk2 := k2.of hn
  replace HY := Lib.hid (HY.out.of hn)
  replace HB1 := Lib.hid (HB1.out.of hn)
  have nhb0 := hb0.trans (hn.mono hb0.size)
  clear hn
  have k3 : Blk V3 U2.heap.size #[.bool bn1, .slice ba1 bl1 bc1] 28 := by rw [hV3]; exact (Blk.new _ _ _)
  clear k2
  clear hb0
  clear hV3
  have k2 := nk2
  clear nk2
  have hb0 := nhb0
  clear nhb0
  obtain ⟨r2, hr2⟩ : ∃ o_o : Int, (wrap64 (2 * k)) = o_o := ⟨_, rfl⟩
  have Hr2 := Lib.hid hr2
  clear hr2
  obtain ⟨r3, hr3⟩ : ∃ o_o : Int, r2 * n = o_o := ⟨_, rfl⟩
  have Hr3 := Lib.hid hr3
  clear hr3
  obtain ⟨r4, hr4⟩ : ∃ o_o : Int, r3 * Y = o_o := ⟨_, rfl⟩
  have Hr4 := Lib.hid hr4
  clear hr4
  have c2_0 : V3.cell? ⟨(w.heap.size + 1), 0, none⟩ = some (.bool nY) := k2.cell 0
  have c2_1 : V3.cell? ⟨(w.heap.size + 1), 1, none⟩ = some (.slice aY lY cY) := k2.cell 1
  have l2 := k2.lt
  have Kk2 := Lib.hid k2
  clear k2
  have Kk3 := Lib.hid k3
  clear k3
  refine wp_region_float1 9 8 [(true, 0), (true, 1), (true, 3), (true, 6), (false, 2), (false, 4), (false, 5), (false, 7)] (by kernel_rfl) (by kernel_rfl) (fun _ _ d _ _ => by cases d <;> exact Iff.rfl) rfl rfl rfl alPcF_0 ?_
  have hb : Below V3.heap.size V3 V3.drew := (Below.refl _ _).drew
  iterate 4
    refine wpF_take rfl rfl ?_
    go_big_quiet_step (rfl)
    refine wpQuiet_nil ?_
  refine wpF_do rfl ?_
  intro w1 hg K hK
  replace hb := hb.trans (hg.mono hb.size)
  try replace HB2 := Lib.hid (HB2.out.of hg); try replace HB3 := Lib.hid (HB3.out.of hg); try replace HB4 := Lib.hid (HB4.out.of hg); try replace HB5 := Lib.hid (HB5.out.of hg)
  clear hg
  go_wp2_with ((first | (go_at_call 66; (with_reducible refine (bigOf_v (wrap64 (2 * k)) r2 Hr2.out (wrap64_in _) _).mono ?_); rintro e w2 ⟨v_, rfl, hbm, hn⟩; have HB2 := Lib.hid hbm; have hvm := hbm.shape; clear hbm; obtain ⟨bn2, ba2, bl2, bc2, rfl⟩ := hvm) | (go_at_call 66; (with_reducible refine (bigOf_v n n rfl _in _).mono ?_); rintro e w2 ⟨v_, rfl, hbm, hn⟩; replace HB2 := Lib.hid (HB2.out.of hn); have HB3 := Lib.hid hbm; have hvm := hbm.shape; clear hbm; obtain ⟨bn3, ba3, bl3, bc3, rfl⟩ := hvm)))
  refine hK.out _ _ hn ?_
  replace hb := hb.trans (hn.mono hb.size)
  clear hK K
  clear hn
  refine wpF_do rfl ?_
  intro w1 hg K hK
  replace hb := hb.trans (hg.mono hb.size)
  try replace HB2 := Lib.hid (HB2.out.of hg); try replace HB3 := Lib.hid (HB3.out.of hg); try replace HB4 := Lib.hid (HB4.out.of hg); try replace HB5 := Lib.hid (HB5.out.of hg)
  clear hg
  go_wp2_with ((first | (go_at_call 66; (with_reducible refine (bigOf_v (wrap64 (2 * k)) r2 Hr2.out (wrap64_in _) _).mono ?_); rintro e w2 ⟨v_, rfl, hbm, hn⟩; have HB2 := Lib.hid hbm; have hvm := hbm.shape; clear hbm; obtain ⟨bn2, ba2, bl2, bc2, rfl⟩ := hvm) | (go_at_call 66; (with_reducible refine (bigOf_v n n rfl _in _).mono ?_); rintro e w2 ⟨v_, rfl, hbm, hn⟩; replace HB2 := Lib.hid (HB2.out.of hn); have HB3 := Lib.hid hbm; have hvm := hbm.shape; clear hbm; obtain ⟨bn3, ba3, bl3, bc3, rfl⟩ := hvm)))
  refine hK.out _ _ hn ?_
  replace hb := hb.trans (hn.mono hb.size)
  clear hK K
  clear hn
  refine wpF_do rfl ?_
  intro w1 hg K hK
  replace hb := hb.trans (hg.mono hb.size)
  try replace HB2 := Lib.hid (HB2.out.of hg); try replace HB3 := Lib.hid (HB3.out.of hg); try replace HB4 := Lib.hid (HB4.out.of hg); try replace HB5 := Lib.hid (HB5.out.of hg)
  clear hg
  go_wp2_with ((first | (go_at_call 65; (with_reducible refine (bigMul_v (.agg #[.bool bn2, .slice ba2 bl2 bc2]) (.agg #[.bool bn3, .slice ba3 bl3 bc3]) r2 n r3 5 5 Hr3.out _ HB2.out HB3.out (by decide)).mono ?_); rintro e w2 ⟨v_, rfl, hbm, hn⟩; replace HB2 := Lib.hid (HB2.out.of hn); replace HB3 := Lib.hid (HB3.out.of hn); have HB4 := Lib.hid hbm; have hvm := hbm.shape; clear hbm; obtain ⟨bn4, ba4, bl4, bc4, rfl⟩ := hvm) | (go_at_call 65; (with_reducible refine (bigMul_v (.agg #[.bool bn4, .slice ba4 bl4 bc4]) (.agg #[.bool nY, .slice aY lY cY]) r3 Y r4 10 50 Hr4.out _ HB4.out (HY.out.of hb) (by decide)).mono ?_); rintro e w2 ⟨v_, rfl, hbm, hn⟩; replace HB2 := Lib.hid (HB2.out.of hn); replace HB3 := Lib.hid (HB3.out.of hn); replace HB4 := Lib.hid (HB4.out.of hn); have HB5 := Lib.hid hbm; have hvm := hbm.shape; clear hbm; obtain ⟨bn5, ba5, bl5, bc5, rfl⟩ := hvm)))
  refine hK.out _ _ hn ?_
  replace hb := hb.trans (hn.mono hb.size)
  clear hK K
  clear hn
  refine wpF_do rfl ?_
  intro w1 hg K hK
  replace hb := hb.trans (hg.mono hb.size)
  try replace HB2 := Lib.hid (HB2.out.of hg); try replace HB3 := Lib.hid (HB3.out.of hg); try replace HB4 := Lib.hid (HB4.out.of hg); try replace HB5 := Lib.hid (HB5.out.of hg)
  clear hg
  go_wp2_with ((first | (go_at_call 65; (with_reducible refine (bigMul_v (.agg #[.bool bn2, .slice ba2 bl2 bc2]) (.agg #[.bool bn3, .slice ba3 bl3 bc3]) r2 n r3 5 5 Hr3.out _ HB2.out HB3.out (by decide)).mono ?_); rintro e w2 ⟨v_, rfl, hbm, hn⟩; replace HB2 := Lib.hid (HB2.out.of hn); replace HB3 := Lib.hid (HB3.out.of hn); have HB4 := Lib.hid hbm; have hvm := hbm.shape; clear hbm; obtain ⟨bn4, ba4, bl4, bc4, rfl⟩ := hvm) | (go_at_call 65; (with_reducible refine (bigMul_v (.agg #[.bool bn4, .slice ba4 bl4 bc4]) (.agg #[.bool nY, .slice aY lY cY]) r3 Y r4 10 50 Hr4.out _ HB4.out (HY.out.of hb) (by decide)).mono ?_); rintro e w2 ⟨v_, rfl, hbm, hn⟩; replace HB2 := Lib.hid (HB2.out.of hn); replace HB3 := Lib.hid (HB3.out.of hn); replace HB4 := Lib.hid (HB4.out.of hn); have HB5 := Lib.hid hbm; have hvm := hbm.shape; clear hbm; obtain ⟨bn5, ba5, bl5, bc5, rfl⟩ := hvm)))
  refine hK.out _ _ hn ?_
  replace hb := hb.trans (hn.mono hb.size)
  clear hK K
  clear hn
  refine wpF_nil ?_
  clear hb
  intro w1 hg hb b1 lb1 nb1
  replace HB2 := Lib.hid (HB2.out.of hg)
  replace HB3 := Lib.hid (HB3.out.of hg)
  replace HB4 := Lib.hid (HB4.out.of hg)
  replace HB5 := Lib.hid (HB5.out.of hg)
  clear hg
  simp only [Act.put, ptrTo, List.setIfInBounds_toArray, List.set_cons_succ, List.set_cons_zero]
  simp only [List.drop_succ_cons, List.drop_zero]
  clear c2_0 c2_1 l2
  first | refine calls_w ?_ | refine name_world ?_ | refine list_world ?_ | refine post_world ?_
  intro U4 hU4
  subst hU4
  have D3 := Lib.hid Kk2.out.lt
  have D4 := Lib.hid Kk3.out.lt
  have D5 := Lib.hid hb0.size
  have k4 : Blk U4 b1 #[.bool false, .slice none 0 0] 28 := nb1
  have k2 := Kk2.out.of hb
  clear Kk2
  have k3 := Kk3.out.of hb
  clear Kk3
  have D6 := Lib.hid lb1
  clear nb1 lb1
  replace HY := Lib.hid (HY.out.of hb)
  replace HB1 := Lib.hid (HB1.out.of hb)
  replace hb0 := hb0.trans (hb.mono hb0.size)
  clear hb
  generalize b1 = q4 at *
  have c4_0 : U4.cell? ⟨q4, 0, none⟩ = some (.bool false) := k4.cell 0
  have c4_1 : U4.cell? ⟨q4, 1, none⟩ = some (.slice none 0 0) := k4.cell 1
  have f4_0 := k4.free 0
  have f4_1 := k4.free 1
  have l4 := k4.lt
  go_wp2_with fail
  clear c4_0 c4_1 f4_0 f4_1 l4
  first | refine calls_w ?_ | refine name_world ?_ | refine list_world ?_ | refine post_world ?_
  intro V5 hV5
  clear HB2 HB3 HB4
  have D7 := Lib.hid k2.lt
  have D8 := Lib.hid k3.lt
  have D9 := Lib.hid k4.lt
  have D10 := Lib.hid hb0.size
  have nk2 : Blk V5 (w.heap.size + 1) #[.bool nY, .slice aY lY cY] 28 := by rw [hV5]; exact (blk_setL k2 (by have := D3.out; have := D6.out; omega) 0 [.bool bn5, .slice ba5 bl5 bc5])
  have nk3 : Blk V5 U2.heap.size #[.bool bn1, .slice ba1 bl1 bc1] 28 := by rw [hV5]; exact (blk_setL k3 (by have := D4.out; have := D6.out; omega) 0 [.bool bn5, .slice ba5 bl5 bc5])
  have nk4 : Blk V5 q4 #[.bool bn5, .slice ba5 bl5 bc5] 28 := by rw [hV5]; exact (blk_full _ [.bool bn5, .slice ba5 bl5 bc5] k4 rfl)
  have nhb0 : Below w.heap.size w V5 := by rw [hV5]; exact (blw_setL hb0 (by have := D5.out; have := D6.out; omega) 0 [.bool bn5, .slice ba5 bl5 bc5])
  replace HY : Hid (Big V5 (.agg #[.bool nY, .slice aY lY cY]) Y 50) := Lib.hid (by rw [hV5]; exact (big_setL HY.out (Blk.cell k4 0) (fun _ h => by cases h) 0 [.bool bn5, .slice ba5 bl5 bc5]))
  replace HB1 : Hid (Big V5 (.agg #[.bool bn1, .slice ba1 bl1 bc1]) r1 51) := Lib.hid (by rw [hV5]; exact (big_setL HB1.out (Blk.cell k4 0) (fun _ h => by cases h) 0 [.bool bn5, .slice ba5 bl5 bc5]))
  replace HB5 : Hid (Big V5 (.agg #[.bool bn5, .slice ba5 bl5 bc5]) r4 60) := Lib.hid (by rw [hV5]; exact (big_setL HB5.out (Blk.cell k4 0) (fun _ h => by cases h) 0 [.bool bn5, .slice ba5 bl5 bc5]))
  clear k2 k3 k4
  clear hb0
  clear hV5
  have k2 := nk2
  clear nk2
  have k3 := nk3
  clear nk3
  have k4 := nk4
  clear nk4
  have hb0 := nhb0
  clear nhb0
  obtain ⟨r5, hr5⟩ : ∃ o_o : Int, n * Y = o_o := ⟨_, rfl⟩
  have Hr5 := Lib.hid hr5
  clear hr5
  have c2_0 : V5.cell? ⟨(w.heap.size + 1), 0, none⟩ = some (.bool nY) := k2.cell 0
  have c2_1 : V5.cell? ⟨(w.heap.size + 1), 1, none⟩ = some (.slice aY lY cY) := k2.cell 1
  have l2 := k2.lt
  have Kk2 := Lib.hid k2
  clear k2
  have Kk3 := Lib.hid k3
  clear k3
  have Kk4 := Lib.hid k4
  clear k4
  refine wp_region_float1 5 4 [(true, 0), (true, 2), (false, 1), (false, 3)] (by kernel_rfl) (by kernel_rfl) (fun _ _ d _ _ => by cases d <;> exact Iff.rfl) rfl rfl rfl alPcF_0 ?_
  have hb : Below V5.heap.size V5 V5.drew := (Below.refl _ _).drew
  iterate 2
    refine wpF_take rfl rfl ?_
    go_big_quiet_step (rfl)
    refine wpQuiet_nil ?_
  refine wpF_do rfl ?_
  intro w1 hg K hK
  replace hb := hb.trans (hg.mono hb.size)
  try replace HB6 := Lib.hid (HB6.out.of hg); try replace HB7 := Lib.hid (HB7.out.of hg)
  clear hg
  go_wp2_with ((go_at_call 66; (with_reducible refine (bigOf_v n n rfl _in _).mono ?_); rintro e w2 ⟨v_, rfl, hbm, hn⟩; have HB6 := Lib.hid hbm; have hvm := hbm.shape; clear hbm; obtain ⟨bn6, ba6, bl6, bc6, rfl⟩ := hvm))
  refine hK.out _ _ hn ?_
  replace hb := hb.trans (hn.mono hb.size)
  clear hK K
  clear hn
  refine wpF_do rfl ?_
  intro w1 hg K hK
  replace hb := hb.trans (hg.mono hb.size)
  try replace HB6 := Lib.hid (HB6.out.of hg); try replace HB7 := Lib.hid (HB7.out.of hg)
  clear hg
  go_wp2_with ((go_at_call 65; (with_reducible refine (bigMul_v (.agg #[.bool bn6, .slice ba6 bl6 bc6]) (.agg #[.bool nY, .slice aY lY cY]) n Y r5 5 50 Hr5.out _ HB6.out (HY.out.of hb) (by decide)).mono ?_); rintro e w2 ⟨v_, rfl, hbm, hn⟩; replace HB6 := Lib.hid (HB6.out.of hn); have HB7 := Lib.hid hbm; have hvm := hbm.shape; clear hbm; obtain ⟨bn7, ba7, bl7, bc7, rfl⟩ := hvm))
  refine hK.out _ _ hn ?_
  replace hb := hb.trans (hn.mono hb.size)
  clear hK K
  clear hn
  refine wpF_nil ?_
  clear hb
  intro w1 hg hb b1 lb1 nb1
  replace HB6 := Lib.hid (HB6.out.of hg)
  replace HB7 := Lib.hid (HB7.out.of hg)
  clear hg
  simp only [Act.put, ptrTo, List.setIfInBounds_toArray, List.set_cons_succ, List.set_cons_zero]
  simp only [List.drop_succ_cons, List.drop_zero]
  clear c2_0 c2_1 l2
  first | refine calls_w ?_ | refine name_world ?_ | refine list_world ?_ | refine post_world ?_
  intro U6 hU6
  subst hU6
  have D11 := Lib.hid Kk2.out.lt
  have D12 := Lib.hid Kk3.out.lt
  have D13 := Lib.hid Kk4.out.lt
  have D14 := Lib.hid hb0.size
  have k5 : Blk U6 b1 #[.bool false, .slice none 0 0] 28 := nb1
  have k2 := Kk2.out.of hb
  clear Kk2
  have k3 := Kk3.out.of hb
  clear Kk3
  have k4 := Kk4.out.of hb
  clear Kk4
  have D15 := Lib.hid lb1
  clear nb1 lb1
  replace HY := Lib.hid (HY.out.of hb)
  replace HB1 := Lib.hid (HB1.out.of hb)
  replace HB5 := Lib.hid (HB5.out.of hb)
  replace hb0 := hb0.trans (hb.mono hb0.size)
  clear hb
  generalize b1 = q5 at *
  have c5_0 : U6.cell? ⟨q5, 0, none⟩ = some (.bool false) := k5.cell 0
  have c5_1 : U6.cell? ⟨q5, 1, none⟩ = some (.slice none 0 0) := k5.cell 1
  have f5_0 := k5.free 0
  have f5_1 := k5.free 1
  have l5 := k5.lt
  go_wp2_with fail
  clear c5_0 c5_1 f5_0 f5_1 l5
  first | refine calls_w ?_ | refine name_world ?_ | refine list_world ?_ | refine post_world ?_
  intro V7 hV7
  clear HY HB6
  clear k2
  have D16 := Lib.hid k3.lt
  have D17 := Lib.hid k4.lt
  have D18 := Lib.hid k5.lt
  have D19 := Lib.hid hb0.size
  have nk3 : Blk V7 U2.heap.size #[.bool bn1, .slice ba1 bl1 bc1] 28 := by rw [hV7]; exact (blk_setL k3 (by have := D12.out; have := D15.out; omega) 0 [.bool bn7, .slice ba7 bl7 bc7])
  have nk4 : Blk V7 q4 #[.bool bn5, .slice ba5 bl5 bc5] 28 := by rw [hV7]; exact (blk_setL k4 (by have := D13.out; have := D15.out; omega) 0 [.bool bn7, .slice ba7 bl7 bc7])
  have nk5 : Blk V7 q5 #[.bool bn7, .slice ba7 bl7 bc7] 28 := by rw [hV7]; exact (blk_full _ [.bool bn7, .slice ba7 bl7 bc7] k5 rfl)
  have nhb0 : Below w.heap.size w V7 := by rw [hV7]; exact (blw_setL hb0 (by have := D14.out; have := D15.out; omega) 0 [.bool bn7, .slice ba7 bl7 bc7])
  replace HB1 : Hid (Big V7 (.agg #[.bool bn1, .slice ba1 bl1 bc1]) r1 51) := Lib.hid (by rw [hV7]; exact (big_setL HB1.out (Blk.cell k5 0) (fun _ h => by cases h) 0 [.bool bn7, .slice ba7 bl7 bc7]))
  replace HB5 : Hid (Big V7 (.agg #[.bool bn5, .slice ba5 bl5 bc5]) r4 60) := Lib.hid (by rw [hV7]; exact (big_setL HB5.out (Blk.cell k5 0) (fun _ h => by cases h) 0 [.bool bn7, .slice ba7 bl7 bc7]))
  replace HB7 : Hid (Big V7 (.agg #[.bool bn7, .slice ba7 bl7 bc7]) r5 55) := Lib.hid (by rw [hV7]; exact (big_setL HB7.out (Blk.cell k5 0) (fun _ h => by cases h) 0 [.bool bn7, .slice ba7 bl7 bc7]))
  clear k3 k4 k5
  clear hb0
  clear hV7
  have k3 := nk3
  clear nk3
  have k4 := nk4
  clear nk4
  have k5 := nk5
  clear nk5
  have hb0 := nhb0
  clear nhb0
  obtain ⟨r6, hr6⟩ : ∃ o_o : Int, r4 - r5 = o_o := ⟨_, rfl⟩
  have Hr6 := Lib.hid hr6
  clear hr6
  obtain ⟨r7, hr7⟩ : ∃ o_o : Int, cmpI r1 r6 = o_o := ⟨_, rfl⟩
  have Hr7 := Lib.hid hr7
  clear hr7
  obtain ⟨z8, hz8⟩ : ∃ o_o : Bool, decide (0 ≤ r7) = o_o := ⟨_, rfl⟩
  cases z8
  · have c3_0 : V7.cell? ⟨U2.heap.size, 0, none⟩ = some (.bool bn1) := k3.cell 0
    have c3_1 : V7.cell? ⟨U2.heap.size, 1, none⟩ = some (.slice ba1 bl1 bc1) := k3.cell 1
    have l3 := k3.lt
    have c4_0 : V7.cell? ⟨q4, 0, none⟩ = some (.bool bn5) := k4.cell 0
    have c4_1 : V7.cell? ⟨q4, 1, none⟩ = some (.slice ba5 bl5 bc5) := k4.cell 1
    have l4 := k4.lt
    have c5_0 : V7.cell? ⟨q5, 0, none⟩ = some (.bool bn7) := k5.cell 0
    have c5_1 : V7.cell? ⟨q5, 1, none⟩ = some (.slice ba7 bl7 bc7) := k5.cell 1
    have l5 := k5.lt
    have Kk3 := Lib.hid k3
    clear k3
    have Kk4 := Lib.hid k4
    clear k4
    have Kk5 := Lib.hid k5
    clear k5
    refine wp_region_up V7.heap.size 11 [(true, 0), (true, 1), (true, 2), (false, 3), (false, 4), (true, 5), (true, 6), (true, 7), (true, 8), (true, 9), (false, 10)] (by kernel_rfl) (by kernel_rfl) (fun _ _ d _ _ h => by cases d <;> exact h) ?_
    have hb : Below V7.heap.size V7 V7.drew := (Below.refl _ _).drew
    iterate 3
      refine wpS_takeL rfl rfl ?_
      go_big_quiet_step (rfl)
      refine wpQuiet_nil ?_
    refine wpS_doL rfl ?_
    intro K hK
    go_wp2_with ((go_at_call 68; (with_reducible refine (bigSub_v (.agg #[.bool bn5, .slice ba5 bl5 bc5]) (.agg #[.bool bn7, .slice ba7 bl7 bc7]) r4 r5 r6 60 Hr6.out _ (HB5.out.of hb) ((HB7.out.of hb).mono (by decide)) (by decide)).mono ?_); rintro e w2 ⟨v_, rfl, hbm, hn⟩; have HB9 := Lib.hid hbm; have hvm := hbm.shape; clear hbm; obtain ⟨bn9, ba9, bl9, bc9, rfl⟩ := hvm))
    replace hb := hb.trans (hn.mono hb.size)
    refine hK.out _ _ (up_iff.2 hb) ?_
    clear hK K
    clear hn
    refine wpS_doL rfl ?_
    intro K hK
    go_wp2_with ((go_at_call 23; (with_reducible refine (bigCmp_v (.agg #[.bool bn1, .slice ba1 bl1 bc1]) (.agg #[.bool bn9, .slice ba9 bl9 bc9]) r1 r6 51 61 r7 Hr7.out _ (HB1.out.of hb) HB9.out).mono ?_); rintro e w2 ⟨rfl, hn⟩; replace HB9 := Lib.hid (HB9.out.of hn)))
    replace hb := hb.trans (hn.mono hb.size)
    refine hK.out _ _ (up_iff.2 hb) ?_
    clear hK K
    clear hn
    iterate 5
      refine wpS_takeL rfl rfl ?_
      go_big_quiet_step (rfl)
      refine wpQuiet_nil ?_
    refine wpS_doL rfl ?_
    intro K hK
    go_wp2_with ((first | (go_at_call 68; (with_reducible refine (bigSub_v (.agg #[.bool bn5, .slice ba5 bl5 bc5]) (.agg #[.bool bn7, .slice ba7 bl7 bc7]) r4 r5 r6 60 Hr6.out _ (HB5.out.of hb) ((HB7.out.of hb).mono (by decide)) (by decide)).mono ?_); rintro e w2 ⟨v_, rfl, hbm, hn⟩; have HB9 := Lib.hid hbm; have hvm := hbm.shape; clear hbm; obtain ⟨bn9, ba9, bl9, bc9, rfl⟩ := hvm) | (go_at_call 23; (with_reducible refine (bigCmp_v (.agg #[.bool bn1, .slice ba1 bl1 bc1]) (.agg #[.bool bn9, .slice ba9 bl9 bc9]) r1 r6 51 61 r7 Hr7.out _ (HB1.out.of hb) HB9.out).mono ?_); rintro e w2 ⟨rfl, hn⟩; replace HB9 := Lib.hid (HB9.out.of hn))))
    try replace hb := hb.trans (hn.mono hb.size)
    refine hK.out _ _ (up_iff.2 hb) ?_
    clear hK K
    try clear hn
    refine wpS_nil ?_
    simp only [List.drop_succ_cons, List.drop_zero]
    first | refine calls_w ?_ | refine name_world ?_ | refine list_world ?_ | refine post_world ?_
    intro U8 hU8
    first | (subst hU8; have u_ := U8; clear u_) | (rw [← hU8] at hb; clear hU8)
    clear c3_0 c3_1 l3 c4_0 c4_1 l4 c5_0 c5_1 l5
    have k3 := Kk3.out.of hb
    clear Kk3
    have k4 := Kk4.out.of hb
    clear Kk4
    have k5 := Kk5.out.of hb
    clear Kk5
    replace HB1 := Lib.hid (HB1.out.of hb)
    replace HB5 := Lib.hid (HB5.out.of hb)
    replace HB7 := Lib.hid (HB7.out.of hb)
    replace hb0 := hb0.trans (hb.mono hb0.size)
    clear hb
    have e0 : false = R0 := by rw [← HR0.out]; unfold rinsL; (try rw [Hr1.out]); (try rw [Hr2.out]); (try rw [Hr3.out]); (try rw [Hr4.out]); (try rw [Hr5.out]); (try rw [Hr6.out]); (try rw [Hr7.out]); (try rw [hz8]); all_goals first | rfl | simp
    subst e0
    go_wp2
    first | go_ret | go_ret2
    exact ⟨by first | rfl | simp, hb0⟩
  · obtain ⟨r9, hr9⟩ : ∃ o_o : Int, r4 + r5 = o_o := ⟨_, rfl⟩
    have Hr9 := Lib.hid hr9
    clear hr9
    have c3_0 : V7.cell? ⟨U2.heap.size, 0, none⟩ = some (.bool bn1) := k3.cell 0
    have c3_1 : V7.cell? ⟨U2.heap.size, 1, none⟩ = some (.slice ba1 bl1 bc1) := k3.cell 1
    have l3 := k3.lt
    have c4_0 : V7.cell? ⟨q4, 0, none⟩ = some (.bool bn5) := k4.cell 0
    have c4_1 : V7.cell? ⟨q4, 1, none⟩ = some (.slice ba5 bl5 bc5) := k4.cell 1
    have l4 := k4.lt
    have c5_0 : V7.cell? ⟨q5, 0, none⟩ = some (.bool bn7) := k5.cell 0
    have c5_1 : V7.cell? ⟨q5, 1, none⟩ = some (.slice ba7 bl7 bc7) := k5.cell 1
    have l5 := k5.lt
    have Kk3 := Lib.hid k3
    clear k3
    have Kk4 := Lib.hid k4
    clear k4
    have Kk5 := Lib.hid k5
    clear k5
    refine wp_region_up V7.heap.size 11 [(true, 0), (true, 1), (true, 2), (false, 3), (false, 4), (true, 5), (true, 6), (true, 7), (true, 8), (true, 9), (false, 10)] (by kernel_rfl) (by kernel_rfl) (fun _ _ d _ _ h => by cases d <;> exact h) ?_
    have hb : Below V7.heap.size V7 V7.drew := (Below.refl _ _).drew
    iterate 3
      refine wpS_takeL rfl rfl ?_
      go_big_quiet_step (rfl)
      refine wpQuiet_nil ?_
    refine wpS_doL rfl ?_
    intro K hK
    go_wp2_with ((go_at_call 68; (with_reducible refine (bigSub_v (.agg #[.bool bn5, .slice ba5 bl5 bc5]) (.agg #[.bool bn7, .slice ba7 bl7 bc7]) r4 r5 r6 60 Hr6.out _ (HB5.out.of hb) ((HB7.out.of hb).mono (by decide)) (by decide)).mono ?_); rintro e w2 ⟨v_, rfl, hbm, hn⟩; have HB10 := Lib.hid hbm; have hvm := hbm.shape; clear hbm; obtain ⟨bn10, ba10, bl10, bc10, rfl⟩ := hvm))
    replace hb := hb.trans (hn.mono hb.size)
    refine hK.out _ _ (up_iff.2 hb) ?_
    clear hK K
    clear hn
    refine wpS_doL rfl ?_
    intro K hK
    go_wp2_with ((go_at_call 23; (with_reducible refine (bigCmp_v (.agg #[.bool bn1, .slice ba1 bl1 bc1]) (.agg #[.bool bn10, .slice ba10 bl10 bc10]) r1 r6 51 61 r7 Hr7.out _ (HB1.out.of hb) HB10.out).mono ?_); rintro e w2 ⟨rfl, hn⟩; replace HB10 := Lib.hid (HB10.out.of hn)))
    replace hb := hb.trans (hn.mono hb.size)
    refine hK.out _ _ (up_iff.2 hb) ?_
    clear hK K
    clear hn
    iterate 5
      refine wpS_takeL rfl rfl ?_
      go_big_quiet_step (rfl)
      refine wpQuiet_nil ?_
    refine wpS_doL rfl ?_
    intro K hK
    go_wp2_with ((go_at_call 18; (with_reducible refine (bigAdd_v (.agg #[.bool bn5, .slice ba5 bl5 bc5]) (.agg #[.bool bn7, .slice ba7 bl7 bc7]) r4 r5 r9 60 Hr9.out _ (HB5.out.of hb) ((HB7.out.of hb).mono (by decide)) (by decide)).mono ?_); rintro e w2 ⟨v_, rfl, hbm, hn⟩; replace HB10 := Lib.hid (HB10.out.of hn); have HB11 := Lib.hid hbm; have hvm := hbm.shape; clear hbm; obtain ⟨bn11, ba11, bl11, bc11, rfl⟩ := hvm))
    try replace hb := hb.trans (hn.mono hb.size)
    refine hK.out _ _ (up_iff.2 hb) ?_
    clear hK K
    try clear hn
    refine wpS_nil ?_
    simp only [List.drop_succ_cons, List.drop_zero]
    first | refine calls_w ?_ | refine name_world ?_ | refine list_world ?_ | refine post_world ?_
    intro U9 hU9
    first | (subst hU9; have u_ := U9; clear u_) | (rw [← hU9] at hb; clear hU9)
    clear c3_0 c3_1 l3 c4_0 c4_1 l4 c5_0 c5_1 l5
    have k3 := Kk3.out.of hb
    clear Kk3
    have k4 := Kk4.out.of hb
    clear Kk4
    have k5 := Kk5.out.of hb
    clear Kk5
    replace HB1 := Lib.hid (HB1.out.of hb)
    replace HB5 := Lib.hid (HB5.out.of hb)
    replace HB7 := Lib.hid (HB7.out.of hb)
    replace hb0 := hb0.trans (hb.mono hb0.size)
    clear hb
    go_wp2_with fail
    obtain ⟨r10, hr10⟩ : ∃ o_o : Int, cmpI r1 r9 = o_o := ⟨_, rfl⟩
    have Hr10 := Lib.hid hr10
    clear hr10
    refine (bigCmp_v (.agg #[.bool bn1, .slice ba1 bl1 bc1]) (.agg #[.bool bn11, .slice ba11 bl11 bc11]) r1 r9 51 61 r10 Hr10.out _ HB1.out HB11.out).mono ?_
    rintro e U10 ⟨rfl, hn⟩
    clear HB1 HB5 HB7 HB10 HB11
    clear k3 k4 k5
    replace hb0 := hb0.trans (hn.mono hb0.size)
    clear hn
    have e0 : decide (r10 < 0) = R0 := by rw [← HR0.out]; unfold rinsL; (try rw [Hr1.out]); (try rw [Hr2.out]); (try rw [Hr3.out]); (try rw [Hr4.out]); (try rw [Hr5.out]); (try rw [Hr6.out]); (try rw [Hr7.out]); (try rw [hz8]); (try rw [Hr9.out]); (try rw [Hr10.out]); all_goals first | rfl | simp
    subst e0
    go_wp2
    first | go_ret | go_ret2
    exact ⟨by first | rfl | simp, hb0⟩

def rin15L (X : Int) (Y : Int) (Z : Int) (cx : Int) (cy : Int) (n : Int) : Bool := (bif (rinsL X Z cx n) then (rinsL Y Z cy n) else false)

set_option maxRecDepth 100000 in
set_option maxHeartbeats 4000000 in

theorem rInL_is (X : Int) (Y : Int) (Z : Int) (cx : Int) (cy : Int) (n : Int)  (R0 : Bool) (hR0 : rin15L X Y Z cx cy n = R0) (_icx : In64 cx) (_icy : In64 cy) (_in : In64 n) (nX : Bool) (aX : Option Addr) (lX cX : Nat) (nY : Bool) (aY : Option Addr) (lY cY : Nat) (nZ : Bool) (aZ : Option Addr) (lZ cZ : Nat) (w : World) (hX : Big w (.agg #[.bool nX, .slice aX lX cX]) X 50) (hY : Big w (.agg #[.bool nY, .slice aY lY cY]) Y 50) (hZ : Big w (.agg #[.bool nZ, .slice aZ lZ cZ]) Z 50) :
    Calls Try.prog 44 #[.agg #[.bool nX, .slice aX lX cX, .bool nY, .slice aY lY cY, .bool nZ, .slice aZ lZ cZ], .agg #[.int .i64 cx, .int .i64 cy], .int .i64 n] w fun e w' => e = .returned (.bool R0) ∧ Below w.heap.size w w' := by

  have HX := Lib.hid hX
  clear hX
  have HY := Lib.hid hY
  clear hY
  have HZ := Lib.hid hZ
  clear hZ
  have HR0 := Lib.hid hR0
  clear hR0
  go_enter Try.func44, Try.ntmps44
  go_wp2_with fail
  first | refine calls_w ?_ | refine name_world ?_ | refine list_world ?_ | refine post_world ?_
  intro V1 hV1
  have hn : Below w.heap.size w V1 := by rw [hV1]; exact below_a2 _ _ _
  replace HX := Lib.hid (HX.out.of hn)
  replace HY := Lib.hid (HY.out.of hn)
  replace HZ := Lib.hid (HZ.out.of hn)
  have nhb0 := hn
  have k1 : Blk V1 w.heap.size #[.bool nX, .slice aX lX cX, .bool nY, .slice aY lY cY, .bool nZ, .slice aZ lZ cZ] 72 := by rw [hV1]; exact ((Blk.new _ _ _).alloc _)
  have k2 : Blk V1 (w.heap.size + 1) #[.int .i64 cx, .int .i64 cy] 31 := by rw [hV1]; exact (Blk.new1 _ _ _ _)
  clear hV1
  have hb0 := nhb0
  clear nhb0
  obtain ⟨z1, hz1⟩ : ∃ o_o : Bool, rinsL X Z cx n = o_o := ⟨_, rfl⟩
  have Hz1 := Lib.hid hz1
  clear hz1
  refine (rinsL_is X Z cx n z1 Hz1.out _icx _in nX aX lX cX nZ aZ lZ cZ _ HX.out HZ.out).mono ?_
  rintro e U2 ⟨rfl, hn⟩
  replace k1 := k1.of hn
  replace k2 := k2.of hn
  replace HX := Lib.hid (HX.out.of hn)
  replace HY := Lib.hid (HY.out.of hn)
  replace HZ := Lib.hid (HZ.out.of hn)
  replace hb0 := hb0.trans (hn.mono hb0.size)
  clear hn
  cases z1
  · have e0 : false = R0 := by rw [← HR0.out]; unfold rin15L; (try rw [Hz1.out]); all_goals first | rfl | simp
    subst e0
    go_wp2
    first | go_ret | go_ret2
    exact ⟨by first | rfl | simp, hb0⟩
  · have c1_2 : U2.cell? ⟨w.heap.size, 2, none⟩ = some (.bool nY) := k1.cell 2
    have c1_3 : U2.cell? ⟨w.heap.size, 3, none⟩ = some (.slice aY lY cY) := k1.cell 3
    have c1_4 : U2.cell? ⟨w.heap.size, 4, none⟩ = some (.bool nZ) := k1.cell 4
    have c1_5 : U2.cell? ⟨w.heap.size, 5, none⟩ = some (.slice aZ lZ cZ) := k1.cell 5
    have l1 := k1.lt
    have c2_1 : U2.cell? ⟨(w.heap.size + 1), 1, none⟩ = some (.int .i64 cy) := k2.cell 1
    have l2 := k2.lt
    go_wp2_with fail
    clear c1_2 c1_3 c1_4 c1_5 l1 c2_1 l2
    obtain ⟨z2, hz2⟩ : ∃ o_o : Bool, rinsL Y Z cy n = o_o := ⟨_, rfl⟩
    have Hz2 := Lib.hid hz2
    clear hz2
    refine (rinsL_is Y Z cy n z2 Hz2.out _icy _in nY aY lY cY nZ aZ lZ cZ _ HY.out HZ.out).mono ?_
    rintro e U3 ⟨rfl, hn⟩
    clear HX HY HZ
    clear k1 k2
    replace hb0 := hb0.trans (hn.mono hb0.size)
    clear hn
    have e0 : z2 = R0 := by rw [← HR0.out]; unfold rin15L; (try rw [Hz1.out]); (try rw [Hz2.out]); all_goals first | rfl | simp
    subst e0
    go_wp2
    first | go_ret | go_ret2
    exact ⟨by first | rfl | simp, hb0⟩
end Go.Proofs.Ytlcbomjdbdgbmaa

namespace Go.Proofs.Ytlcbomjdbdgbmaa
open Go.RowKit

theorem rs_ne {w : World} {g cap n : Nat} {F : RF} (h : RS w g cap n F) {b : Nat} {c : Array Value} {t : TypeId} (k : Blk w b c t) (ht : ¬ t = 60) : g ≠ b := by
  intro e
  obtain ⟨cur, h1, _⟩ := h.row
  subst e
  have k1 : w.heap[g]? = _ := k
  rw [h1] at k1
  have := Option.some.inj k1
  simp at this
  exact ht this.2.symm
/-- is the way's point at N / D in the pixel? -/
def PC (ax ay bx b_y cx cy n N D : Int) : Bool := rin15L (a15X ax ay bx b_y N D) (a15Y ax ay bx b_y N D) (a15W ax ay bx b_y N D) cx cy n
theorem PC_v {ax ay bx b_y cx cy n N D X Y Z : Int} {b : Bool} (hX : a15X ax ay bx b_y N D = X) (hY : a15Y ax ay bx b_y N D = Y) (hZ : a15W ax ay bx b_y N D = Z) (h : rin15L X Y Z cx cy n = b) : PC ax ay bx b_y cx cy n N D = b := by
  unfold PC; rw [hX, hY, hZ, h]
theorem PM_v {ax ay bx b_y cx cy n N D N2 D2 M1 M2 X Y Z : Int} {b : Bool} (h1 : mdN N D N2 D2 = M1) (h2 : mdD N D N2 D2 = M2) (hX : a15X ax ay bx b_y M1 M2 = X) (hY : a15Y ax ay bx b_y M1 M2 = Y) (hZ : a15W ax ay bx b_y M1 M2 = Z) (h : rin15L X Y Z cx cy n = b) :
    PC ax ay bx b_y cx cy n (N * D2 + N2 * D) (D * D2 + D * D2) = b := by
  rw [show N * D2 + N2 * D = M1 from h1, show D * D2 + D * D2 = M2 from h2]
  exact PC_v hX hY hZ h
/-- where Cut's loop stands -/
def CuI (ax ay bx b_y cx cy n : Int) (F : RF) (m : Nat) (i : Int) (s : CS) : Prop := 0 ≤ i ∧ i ≤ (m : Int) ∧ runF (PC ax ay bx b_y cx cy n) (F.list m) CS0 = runF (PC ax ay bx b_y cx cy n) ((F.list m).drop i.toNat) s
section
variable {ax ay bx b_y cx cy n i : Int} {F : RF} {m : Nat} {s s' : CS}
theorem CuI.begin : CuI ax ay bx b_y cx cy n F m 0 CS0 := ⟨by omega, by omega, rfl⟩
theorem CuI.w (h : CuI ax ay bx b_y cx cy n F m i s) (hm : m ≤ 6) : wrap64 (i + 1) = i + 1 := by have := h.1; have := h.2.1; exact wrap64_id (by unfold In64; omega)
theorem CuI.ix (h : CuI ax ay bx b_y cx cy n F m i s) (g : decide (i < (m : Int)) = true) : 0 ≤ i ∧ i < (m : Int) := ⟨h.1, of_decide_eq_true g⟩
theorem CuI.ix1 (h : CuI ax ay bx b_y cx cy n F m i s) (g : decide ((i + 1) < (m : Int)) = true) : 0 ≤ i + 1 ∧ i + 1 < (m : Int) := ⟨by have := h.1; omega, of_decide_eq_true g⟩
theorem CuI.fin (h : CuI ax ay bx b_y cx cy n F m i s) (g : decide (i < (m : Int)) = false) : runF (PC ax ay bx b_y cx cy n) (F.list m) CS0 = s := by
  have g1 := of_decide_eq_false g
  rw [h.2.2, List.drop_eq_nil_of_le (by rw [RF.list_len]; have := h.1; omega)]; rfl
theorem CuI.last (h : CuI ax ay bx b_y cx cy n F m i s) (g : decide (i < (m : Int)) = true) (g1 : decide ((i + 1) < (m : Int)) = false) (e : hitF (PC ax ay bx b_y cx cy n) (F.N i.toNat, F.D i.toNat) s = s') : CuI ax ay bx b_y cx cy n F m (i + 1) s' := by
  have g2 := of_decide_eq_true g
  have g3 := of_decide_eq_false g1
  have h0 := h.1
  refine ⟨by omega, by omega, ?_⟩
  rw [h.2.2, rf_drop F (show i.toNat < m by omega), show (i + 1).toNat = i.toNat + 1 by omega, List.drop_eq_nil_of_le (by rw [RF.list_len]; omega), ← e]; rfl
theorem CuI.more (h : CuI ax ay bx b_y cx cy n F m i s) (g : decide (i < (m : Int)) = true) (g1 : decide ((i + 1) < (m : Int)) = true) (e : midF (PC ax ay bx b_y cx cy n) (F.N i.toNat, F.D i.toNat) (F.N (i + 1).toNat, F.D (i + 1).toNat) (hitF (PC ax ay bx b_y cx cy n) (F.N i.toNat, F.D i.toNat) s) = s') : CuI ax ay bx b_y cx cy n F m (i + 1) s' := by
  have g2 := of_decide_eq_true g
  have g3 := of_decide_eq_true g1
  have h0 := h.1
  refine ⟨by omega, by omega, ?_⟩
  have en : (i + 1).toNat = i.toNat + 1 := by omega
  rw [en] at e ⊢
  rw [h.2.2, rf_drop F (show i.toNat < m by omega), rf_drop F (show i.toNat + 1 < m by omega), ← e]; rfl
end
/-- what gromaref15.Cut answers -/
def Cu_post (ax ay bx b_y cx cy n : Int) (w : World) (e : Ending) (w' : World) : Prop := ∃ (n0 : Bool) (a0 : Option Addr) (l0 c0 : Nat) (n1 : Bool) (a1 : Option Addr) (l1 c1 : Nat) (n2 : Bool) (a2 : Option Addr) (l2 c2 : Nat) (n3 : Bool) (a3 : Option Addr) (l3 c3 : Nat) (s : CS),
  e = .returned (.agg #[.bool n0, .slice a0 l0 c0, .bool n1, .slice a1 l1 c1, .bool n2, .slice a2 l2 c2, .bool n3, .slice a3 l3 c3, .bool s.o, .bool s.u, .bool s.some]) ∧ Big w' (.agg #[.bool n0, .slice a0 l0 c0]) s.fn 18 ∧ Big w' (.agg #[.bool n1, .slice a1 l1 c1]) s.fd 18 ∧ Big w' (.agg #[.bool n2, .slice a2 l2 c2]) s.tn 18 ∧ Big w' (.agg #[.bool n3, .slice a3 l3 c3]) s.td 18 ∧
  runF (PC ax ay bx b_y cx cy n) (Tq4 ax ay bx b_y cx cy n) CS0 = s ∧ Below w.heap.size w w'
end Go.Proofs.Ytlcbomjdbdgbmaa

