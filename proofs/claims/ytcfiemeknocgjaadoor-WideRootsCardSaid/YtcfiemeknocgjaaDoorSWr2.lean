/- My texts Mul2, WrA, WrB, Big1, Big2, Big3, Big4, Big5, Big6, Big7, Big8, Big9, Big10, Big11, RegH, AwBD, WrC, AwLp, WrD, WrE, joined: what the last one needs of them. Conditions: as each lemma says. -/
import Derived.Test.YtcfiemeknocgjaaDoorSWr1
import Derived.KernelRfl
import Derived.StillTail
import Derived.OrdersHeld
import Derived.Deep.Quiet
import Derived.Below
import Derived.WalkKit
import Derived.Test.YtcfiemeknocgjaaDoorProg
import Derived.WalkSpells
import Derived.StillTactics
import Derived.Laws.Pointers
import Derived.Deep.RegionHeld3
import Derived.RowKit3
import Derived.Deep.QuietTactic
import Derived.BigQuiet
import Derived.BigRegion
import Derived.Lib.Hide
import Derived.WalkSmall
import Derived.Laws.BitsAllLaws
import Derived.Shelf.Bits.Mul64
import Derived.Laws.Bits64b
import Derived.Shelf.Lays
import Derived.Shelf.Small.Bits
import Derived.Laws.MathBits
import Derived.IntWalk
import Derived.Deep.OwnRows
import Derived.Lib.BitFns
import Derived.Lib.ItoaNum
import Derived.Deep.LoopGhost
import Derived.RowKit
import Derived.Laws.BytesArg
import Derived.ProofKit
import Derived.OpenShut
import Derived.ShutString
import Derived.ChangeOld
import Derived.Lib.SmallJoins
import Derived.Lib.LaidTab
import Derived.Laws.IdiomArrays
import Derived.LaidMore
import Derived.Stop.Joined
import Derived.Test.YtcfiemeknocgjaaDoorTie
import Derived.Test.YtcfiemeknocgjaaDoorCards
import Derived.SevenTiedAt
namespace Go.Proofs.YtcfiemeknocgjaaDoor
open Go.RowKit

def dw (ds : List Int) : List Value := ds.map (Value.int .u64)
theorem dw_get {ds : List Int} {j : Nat} (h : j < ds.length) : (dw ds).toArray[j]? = some (.int .u64 (ds.getD j 0)) := by
  unfold dw; simp [h]
theorem dw_put (ds : List Int) (j : Nat) (v : Int) : (dw ds).toArray.setIfInBounds j (.int .u64 v) = (dw (ds.set j v)).toArray := by
  unfold dw; rw [List.setIfInBounds_toArray, List.map_set]
/-- the four words of a number -/
def ws4 (x : Int) : List Int := [wd0 x, wd1 x, wd2 x, wd3 x]
theorem ws4_ok (x : Int) : WordsOk (ws4 x) := by
  intro d hd
  simp only [ws4, List.mem_cons, List.not_mem_nil, or_false] at hd
  rcases hd with rfl | rfl | rfl | rfl
  · exact wd0_Wd x
  · exact wd1_Wd x
  · exact wd2_Wd x
  · exact wd3_Wd x
theorem uval_ws4 (x : Int) : uval (ws4 x) = x % b256 := by
  rw [← un4_wd]
  simp only [ws4, uval, un4, b64, b128, b192]; omega
theorem Var.at {w : World} {b : Nat} {x : Int} (h : Var w b x) {i : Nat} (hi : i < 4) : w.cell? ⟨b, i, none⟩ = some (.int .u64 ((ws4 x).getD i 0)) := by
  rw [Blk.cell h]
  match i, hi with
  | 0, _ => rfl
  | 1, _ => rfl
  | 2, _ => rfl
  | 3, _ => rfl

/-- where the product stands -/
structure MulW (w : World) (a b : Int) (b1 b2 b3 : Nat) (out : List Int) (wr : World) : Prop where
  ka : Var wr w.heap.size a
  kb : Var wr (w.heap.size + 1) b
  k0 : Var wr (w.heap.size + 1 + 1) 0
  kx : Var wr b1 (sz a)
  ky : Var wr b2 (sz b)
  ko : Blk wr b3 (dw out).toArray 70
  len : out.length = 8
  l1 : b1 < b3
  l2 : b2 < b3
  l3 : w.heap.size + 1 + 1 < b3
  below : Below w.heap.size w wr
theorem MulW.of {w : World} {a b : Int} {b1 b2 b3 : Nat} {out : List Int} {wr w' : World} (h : MulW w a b b1 b2 b3 out wr) (hn : Below wr.heap.size wr w') : MulW w a b b1 b2 b3 out w' :=
  ⟨h.ka.of hn, h.kb.of hn, h.k0.of hn, h.kx.of hn, h.ky.of hn, h.ko.of hn, h.len, h.l1, h.l2, h.l3, h.below.trans (hn.mono h.below.size)⟩
theorem MulW.put {w : World} {a b : Int} {b1 b2 b3 : Nat} {out : List Int} {wr : World} (h : MulW w a b b1 b2 b3 out wr) (j : Nat) (v : Int) : MulW w a b b1 b2 b3 (out.set j v) (wr.setCell ⟨b3, j, none⟩ (.int .u64 v)) := by
  have h1 := h.l1; have h2 := h.l2; have h3 := h.l3
  exact ⟨h.ka.set (by omega) _ _ _, h.kb.set (by omega) _ _ _, h.k0.set (by omega) _ _ _, h.kx.set (by omega) _ _ _, h.ky.set (by omega) _ _ _, by rw [← dw_put]; exact Blk.put h.ko _ _, by rw [List.length_set]; exact h.len, h1, h2, h3, h.below.setCell (by show _ ≤ b3; omega) _⟩
theorem MulW.outc {w : World} {a b : Int} {b1 b2 b3 : Nat} {out : List Int} {wr : World} (h : MulW w a b b1 b2 b3 out wr) {j : Nat} (hj : j < 8) : wr.cell? ⟨b3, j, none⟩ = some (.int .u64 (out.getD j 0)) := by
  rw [h.ko.cell]; exact dw_get (by rw [h.len]; exact hj)

@[go_sem] theorem run_eq23 (a0 a1 a2 a3 b0 b1 b2 b3 : Int) (w : World) :
    (Op.equalIn 10000 23 (.agg #[.int .u64 a0, .int .u64 a1, .int .u64 a2, .int .u64 a3]) (.agg #[.int .u64 b0, .int .u64 b1, .int .u64 b2, .int .u64 b3])).run Tryd.prog w = .ok (eq4 a0 a1 a2 a3 b0 b1 b2 b3) w := by
  have hu : Tryd.prog.underlying 23 = some (.array 4 22) := by kernel_rfl
  have hs : ∀ w, (sizeOf 22).run Tryd.prog w = .ok 1 w := fun w => by kernel_rfl
  have he : ∀ (a b : Int) w, (Op.equalIn 9999 22 (.int .u64 a) (.int .u64 b)).run Tryd.prog w = .ok (a == b) w := fun a b w => run_equalIn_int w 9998 _ .u64 .u64 a b (by kernel_rfl)
  have hp : ∀ (c : Array Value) (i : Nat) (v : Value) w, c[i]? = some v → (part 22 c i).run Tryd.prog w = .ok v w := by
    intro c i v w h
    have ha : (isAgg 22).run Tryd.prog w = .ok false w := by kernel_rfl
    unfold part
    simp [Sem.run_bind, ha, h]
  show (Op.equalIn (9999 + 1) _ _ _).run _ _ = _
  unfold Op.equalIn
  simp only [Sem.run_bind, run_underlying hu, Result.andThen_ok, hs]
  simp [List.range', he, hp, Sem.run_bind]
  unfold eq4
  by_cases h0 : a0 = b0 <;> by_cases h1 : a1 = b1 <;> by_cases h2 : a2 = b2 <;> by_cases h3 : a3 = b3 <;> simp [h0, h1, h2, h3]
@[go_sem] theorem run_arrayAt4 (a : Option Addr) (c : Nat) (w : World) : (Instr.arrayAt 23 (.slice a 4 c)).run Tryd.prog w = .ok (.pointer a) w := by
  have hu : Tryd.prog.underlying 23 = some (.array 4 22) := by kernel_rfl
  unfold Instr.arrayAt
  simp only [Sem.run_bind, run_underlying hu, Result.andThen_ok]
  rfl
@[go_sem] theorem run_arrayAtI (a : Option Addr) (c : Nat) (w : World) : (Instr.arrayAt 24 (.slice a 4 c)).run Tryd.prog w = .ok (.pointer a) w := by
  have hu : Tryd.prog.underlying 24 = some (.array 4 22) := by kernel_rfl
  unfold Instr.arrayAt
  simp only [Sem.run_bind, run_underlying hu, Result.andThen_ok]
  rfl
theorem signedk_is (x : Int) (b k : Bool) (hk : sgB x b = k) (w : World) :
    Calls Tryd.prog 30 #[wI x, .bool b] w fun e w' => e = .returned (.tuple #[wI (bif k then sgV x b else 0), .bool k]) ∧ Below w.heap.size w w' := hk ▸ signed_any x b w
theorem below_of_eq {w w' : World} (h : w = w') : Below w.heap.size w w' := h ▸ Below.refl _ _
theorem add64_0 {l o l1 m1 : Int} (hl : Wd l) (ho : Wd o) (h1 : l1 = (l + o) % 18446744073709551616) (h2 : m1 = (l + o) / 18446744073709551616) (w : World) : (callFunc 50 #[.int .u64 l, .int .u64 o, .int .u64 0]).run Tryd.prog w = .ok (.value (.tuple #[.int .u64 l1, .int .u64 m1])) w := by
  rw [add64 l o 0 hl ho (by decide) (by decide), Int.add_zero, ← h1, ← h2]

set_option maxRecDepth 100000 in
set_option maxHeartbeats 4000000 in
theorem Mul_go (a b : Int) (w : World) (u : Bool) (hu : (ng a == ng b) = !u) (P : Int) (hP : sz a % b256 * (sz b % b256) = P) (z : Bool) (hz : decide (P < b256) = z) (s : Bool) (hs : sgB P u = s) :
    Calls Tryd.prog 32 #[wI a, wI b] w fun e w' => e = .returned (.tuple #[wI (bif z && s then sgV P u else 0), .bool (z && s)]) ∧ Below w.heap.size w w' := by
  have HU := Lib.hid hu
  have HP := Lib.hid hP
  have HZ := Lib.hid hz
  have HS := Lib.hid hs
  clear hu hP hz hs
  go_enter Tryd.func32, Tryd.ntmps32
  go_wp2_with fail
  refine name_world ?_
  intro W hW
  have ka : Var W w.heap.size a := by rw [hW]; exact ((Blk.new _ _ _).alloc _).alloc _
  have kb : Var W (w.heap.size + 1) b := by rw [hW]; exact (Blk.new1 _ _ _ _).alloc _
  have k0 : Var W (w.heap.size + 1 + 1) 0 := by rw [hW]; exact Blk.new2 _ _ _ _ _
  have hb0 : Below w.heap.size w W := by rw [hW]; exact (((Below.refl _ _).alloc (Nat.le_refl _) _).alloc (by simp) _).alloc (by simp; omega) _
  clear hW
  have ca := Var.c ka
  have cb := Var.c kb
  have la := ka.lt
  have lb := kb.lt
  have KA := Lib.hid ka
  have KB := Lib.hid kb
  have K0 := Lib.hid k0
  clear ka kb k0
  refine wp_region_FG2 6 4 5 [(0, 0), (0, 2), (1, 1), (1, 3)] [(3, 6), (3, 7)] (by kernel_rfl) (by kernel_rfl) (fun _ _ d _ _ => by cases d <;> exact Iff.rfl) rfl rfl rfl allocI rfl rfl rfl allocI rfl ?_
  have hb : Below W.heap.size W W.drew := (Below.refl _ _).drew
  iterate 2
    refine wpFG_take0 rfl rfl ?_
    go_big_quiet_step (rfl)
    refine wpQuiet_nil ?_
  refine wpFG_do rfl ?_
  intro w1 hg K hK
  replace hb := hb.trans (hg.mono hb.size)
  clear hg
  go_wp2_with ((go_at_call 28; refine (size_any _ _).mono ?_; rintro e w2 ⟨rfl, hn⟩))
  refine hK.out _ _ hn ?_
  replace hb := hb.trans (hn.mono hb.size)
  clear hK K
  clear hn
  refine wpFG_do rfl ?_
  intro w1 hg K hK
  replace hb := hb.trans (hg.mono hb.size)
  clear hg
  go_wp2_with ((go_at_call 28; refine (size_any _ _).mono ?_; rintro e w2 ⟨rfl, hn⟩))
  refine hK.out _ _ hn ?_
  replace hb := hb.trans (hn.mono hb.size)
  clear hK K
  clear hn
  refine wpFG_nil ?_
  clear hb
  intro w1 hg hb b1 b2 hne lb1 nb1 lb2 nb2
  clear hg
  simp only [Act.put, ptrTo, List.setIfInBounds_toArray, List.set_cons_succ, List.set_cons_zero]
  have c1 := Var.c (show Var w1 b1 0 from nb1)
  have f1 := Var.f (show Var w1 b1 0 from nb1)
  have c2 := Var.c (show Var w1 b2 0 from nb2)
  have f2 := Var.f (show Var w1 b2 0 from nb2)
  clear ca cb la lb
  refine wpG_do3 rfl ?_
  intro K hK
  go_wp2_with (fail)
  refine hK.out _ _ ?_
  clear hK K
  refine wpG_do3 rfl ?_
  intro K hK
  go_wp2_with (fail)
  refine hK.out _ _ ?_
  clear hK K
  refine wpG_nil ?_
  refine list_world ?_
  intro V hV
  have g1 : Var w1 b1 0 := nb1
  have g2 : Var w1 b2 0 := nb2
  have h12 : b1 ≠ b2 := hne
  have na : w.heap.size ≠ b1 ∧ w.heap.size ≠ b2 := by have := KA.out.lt; omega
  have nb : w.heap.size + 1 ≠ b1 ∧ w.heap.size + 1 ≠ b2 := by have := KB.out.lt; omega
  have n0 : w.heap.size + 1 + 1 ≠ b1 ∧ w.heap.size + 1 + 1 ≠ b2 := by have := K0.out.lt; omega
  have hge1 : w.heap.size ≤ b1 := Nat.le_trans hb0.size lb1
  have hge2 : w.heap.size ≤ b2 := Nat.le_trans hb0.size lb2
  have kx : Var V b1 (sz a) := by rw [hV]; exact Blk.set4 (Var.put4 g1 _) h12 _ _ _ _
  have ky : Var V b2 (sz b) := by rw [hV]; exact Var.put4 (Blk.set4 g2 h12.symm _ _ _ _) _
  have ka : Var V w.heap.size a := by rw [hV]; exact Blk.set4 (Blk.set4 (KA.out.of hb) na.1 _ _ _ _) na.2 _ _ _ _
  have kb : Var V (w.heap.size + 1) b := by rw [hV]; exact Blk.set4 (Blk.set4 (KB.out.of hb) nb.1 _ _ _ _) nb.2 _ _ _ _
  have k0 : Var V (w.heap.size + 1 + 1) 0 := by rw [hV]; exact Blk.set4 (Blk.set4 (K0.out.of hb) n0.1 _ _ _ _) n0.2 _ _ _ _
  have hbV : Below w.heap.size w V := by rw [hV]; exact below_set4 (below_set4 (hb0.trans (hb.mono hb0.size)) hge1 _ _ _ _) hge2 _ _ _ _
  clear hV g1 g2 nb1 nb2 c1 f1 c2 f2 lb1 lb2 hb KA KB K0 hb0 na nb n0 hge1 hge2 h12 hne
  go_wp2_with fail
  refine name_world ?_
  intro W hW
  have hd0 : MulW w a b b1 b2 V.heap.size (List.replicate 8 0) W := by
    rw [hW]
    exact ⟨ka.alloc _, kb.alloc _, k0.alloc _, kx.alloc _, ky.alloc _, Blk.new _ _ _, rfl, kx.lt, ky.lt, k0.lt, hbV.alloc hbV.size _⟩
  clear hW ka kb k0 kx ky hbV
  obtain ⟨b3, hb3⟩ : ∃ b3, b3 = V.heap.size := ⟨_, rfl⟩
  rw [← hb3] at hd0 ⊢
  clear hb3 V
  go_loopw [19] (fun i wr => ∃ (k : Nat) (out : List Int), k ≤ 4 ∧ i = .int .i64 k ∧ Hid (Prw (ws4 (sz a)) (ws4 (sz b)) 8 k 0 out 0) ∧ MulW w a b b1 b2 b3 out wr) (fun i _ => 4 - (intOf i).toNat)
  case atStart => exact ⟨0, _, Nat.zero_le _, rfl, Prw.zero _ _ _, hd0⟩
  case round =>
    clear hd0 W
    rename World => wr
    obtain ⟨i, out, hi, rfl, hp, hd⟩ := hrel
    by_cases h1 : i < 4
    · have ha4 : (i : Int) < 4 := by omega
      have HD := Lib.hid hd
      clear hd
      go_wp2_with fail
      obtain ⟨wo, rfl⟩ : ∃ wo : World, wo = wr := ⟨_, rfl⟩
      have hd := HD.out
      clear HD
      go_loopw [10, 22] (fun c k wr => ∃ (j : Nat) (cv : Int) (out : List Int), j ≤ 4 ∧ k = .int .i64 j ∧ c = .int .u64 cv ∧ Hid (Prw (ws4 (sz a)) (ws4 (sz b)) 8 i j out cv) ∧ MulW w a b b1 b2 b3 out wr) (fun _ k _ => 4 - (intOf k).toNat)
      case atStart => exact ⟨0, 0, out, Nat.zero_le _, rfl, rfl, hp, hd⟩
      case round =>
        clear hd hp
        rename World => wi
        obtain ⟨j, cv, out, hj, rfl, rfl, hp, hd⟩ := hrel
        by_cases h2 : j < 4
        · obtain ⟨x, hx⟩ : ∃ x, x = (ws4 (sz a)).getD i 0 := ⟨_, rfl⟩
          obtain ⟨y, hy⟩ : ∃ y, y = (ws4 (sz b)).getD j 0 := ⟨_, rfl⟩
          obtain ⟨o, ho⟩ : ∃ o, o = out.getD (i + j) 0 := ⟨_, rfl⟩
          have hst := hp.out.step (ws4_ok _) (ws4_ok _) (show j < 4 from h2) (show i + 4 ≤ 8 by omega) hx hy ho
          have wx : Wd x := hx ▸ (ws4_ok _).get i
          have wy : Wd y := hy ▸ (ws4_ok _).get j
          have wo' : Wd o := ho ▸ hp.out.ok.get _
          have wc := hp.out.cw
          obtain ⟨m0, m1, m2, m3, m4, m5, m6, m7, m8⟩ := mul_step wx wy wo' wc
          have c1 := hd.kx.at h1
          have c2 := hd.ky.at h2
          have c3 := hd.outc (j := i + j) (by omega)
          rw [← hx] at c1
          rw [← hy] at c2
          rw [← ho] at c3
          obtain ⟨hi', hhi⟩ : ∃ h, h = x * y / 18446744073709551616 := ⟨_, rfl⟩
          obtain ⟨l, hl⟩ : ∃ h, h = x * y % 18446744073709551616 := ⟨_, rfl⟩
          rw [← hl] at m1 m2 m3 m4 m5 m6
          rw [← hhi] at m0 m4 m6
          obtain ⟨l1, hl1⟩ : ∃ h, h = (l + o) % 18446744073709551616 := ⟨_, rfl⟩
          obtain ⟨mo, hmo⟩ : ∃ h, h = (l + o) / 18446744073709551616 := ⟨_, rfl⟩
          have A1 := fun w => add64_0 m1 wo' hl1 hmo w
          rw [← hl1] at m3 m5 m6
          rw [← hmo] at m2 m4 m6
          obtain ⟨l2, hl2⟩ : ∃ h, h = (l1 + cv) % 18446744073709551616 := ⟨_, rfl⟩
          obtain ⟨mp, hmp⟩ : ∃ h, h = (l1 + cv) / 18446744073709551616 := ⟨_, rfl⟩
          have A2 := fun w => add64_0 m3 wc hl2 hmp w
          rw [← hl2] at m5
          rw [← hmp] at m6
          obtain ⟨h1', hh1⟩ : ∃ h, h = hi' + mo := ⟨_, rfl⟩
          obtain ⟨h2', hh2⟩ : ∃ h, h = h1' + mp := ⟨_, rfl⟩
          rw [← hh1] at m4 m6
          rw [← hh2] at m6
          rw [← m6, ← m5] at hst
          rw [← m6] at m7
          have W1 : IntKind.u64.wrap (hi' + mo) = h1' := by rw [← hh1]; exact IntWalk.u64_in _ (by have := m4.lo; have := m4.hi; omega)
          have W2 : IntKind.u64.wrap (h1' + mp) = h2' := by rw [← hh2]; exact IntWalk.u64_in _ (by have := m7.lo; have := m7.hi; omega)
          have TM := fun w => mul64_any x y wx wy w
          rw [← hhi, ← hl] at TM
          have HM := Lib.hid TM
          have OE := Lib.hid ho.symm
          have ST := Lib.hid hst
          have lx := hd.kx.lt
          have ly := hd.ky.lt
          have HD := Lib.hid hd
          clear hst hx hy ho wx wy wo' wc m0 m1 m2 m3 m4 m5 m6 m7 m8 hhi hl hl1 hmo hl2 hmp hh1 hh2 TM hd hp
          go_wp2_with fail
          have hb4 : (j : Int) < 4 := by omega
          refine wp_region_up wi.heap.size 11 [(true, 0), (true, 1), (true, 2), (true, 3), (true, 4), (true, 5), (false, 6), (true, 7), (true, 8), (true, 9), (true, 10)] (by kernel_rfl) (by kernel_rfl) (fun _ _ d _ _ h => by cases d <;> exact h) ?_
          have hb : Below wi.heap.size wi wi.drew := (Below.refl _ _).drew
          iterate 6
            refine wpS_takeL rfl rfl ?_
            go_big_quiet_step (rfl)
            refine wpQuiet_nil ?_
          refine wpS_doL rfl ?_
          intro K hK
          go_wp2_with ((go_at_call 49; refine (HM.out _).mono ?_; rintro e w2 ⟨rfl, hw⟩; have hn := below_of_eq hw))
          replace hb := hb.trans (hn.mono hb.size)
          refine hK.out _ _ (up_iff.2 hb) ?_
          clear hK K
          clear hn
          iterate 4
            refine wpS_takeL rfl rfl ?_
            go_big_quiet_step (rfl)
            refine wpQuiet_nil ?_
          refine wpS_nil ?_
          simp only [List.drop_succ_cons, List.drop_zero]
          have hd := HD.out.of hb
          clear c1 c2 c3 HM hb HD lx ly
          have c3 := hd.outc (j := i + j) (by omega)
          rw [OE.out] at c3
          have f3 := hd.ko.free (i + j)
          have HD := Lib.hid hd
          clear hd
          go_wp2
          go_roundw
          case rel => exact ⟨j + 1, h2', _, by omega, by go_num, rfl, ST.out, HD.out.put _ _⟩
          case measure => simp [intOf]; omega
        · have hj4 : j = 4 := by omega
          subst hj4
          have hst := hp.out.row (show i + 4 < 8 by omega)
          have c3 := hd.outc (j := i + 4) (by omega)
          have f3 := hd.ko.free (i + 4)
          have ST := Lib.hid hst
          have HD := Lib.hid hd
          clear hst hp hd
          go_wp2
          go_roundw
          case rel => exact ⟨i + 1, _, by omega, by go_num, ST.out, HD.out.put _ _⟩
          case measure => simp [intOf]; omega
    · have hi4 : i = 4 := by omega
      subst hi4
      obtain ⟨p1, p2⟩ := hp.out.all rfl
      rw [uval_ws4, uval_ws4, HP.out] at p2
      have hlen := hd.len
      match out, hlen with
      | [o0, o1, o2, o3, o4, o5, o6, o7], _ =>
        obtain ⟨e1, e2⟩ := eight p1 p2
        rw [HZ.out] at e1
        have kc := hd.ko
        have co : (wr.cell? ⟨b3, 0, none⟩ = some (.int .u64 o0) ∧ wr.cell? ⟨b3, 1, none⟩ = some (.int .u64 o1) ∧ wr.cell? ⟨b3, 2, none⟩ = some (.int .u64 o2) ∧ wr.cell? ⟨b3, 3, none⟩ = some (.int .u64 o3)) ∧ (wr.cell? ⟨b3, 4, none⟩ = some (.int .u64 o4) ∧ wr.cell? ⟨b3, 5, none⟩ = some (.int .u64 o5) ∧ wr.cell? ⟨b3, 6, none⟩ = some (.int .u64 o6) ∧ wr.cell? ⟨b3, 7, none⟩ = some (.int .u64 o7)) := ⟨⟨kc.cell 0, kc.cell 1, kc.cell 2, kc.cell 3⟩, kc.cell 4, kc.cell 5, kc.cell 6, kc.cell 7⟩
        have E2 := Lib.hid e2
        have HD := Lib.hid hd
        clear p1 p2 hp kc e2 hd
        cases z
        · have k0 := HD.out.k0
          have c0 := Var.c k0
          have f0 := Var.f k0
          go_wp2
          refine post_world ?_
          intro Wf hWf
          have kf : Var Wf (w.heap.size + 1 + 1) 0 := by rw [hWf]; exact Var.put4 k0 0
          have hbf : Below w.heap.size w Wf := by rw [hWf]; exact below_set4 HD.out.below (by omega) _ _ _ _
          have c := Var.c kf
          clear hWf c0 f0 co
          simp [bodyPost, results, Tryd.results32, go_sem, c]
          exact hbf
        · have hP : P < b256 := of_decide_eq_true HZ.out
          obtain ⟨q0, q1, q2, q3⟩ := E2.out hP
          subst q0
          subst q1
          subst q2
          subst q3
          clear hP E2
          go_wp2_with fail
          have ca := Var.c HD.out.ka
          have cb := Var.c HD.out.kb
          have la := HD.out.ka.lt
          have lb := HD.out.kb.lt
          have lo := HD.out.ko.lt
          have hu := HU.out
          have co1 := co.1
          clear co
          refine wp_region_up wr.heap.size 11 [(true, 0), (true, 1), (true, 2), (true, 3), (true, 5), (false, 4), (false, 6), (true, 7), (false, 8), (true, 9), (true, 10)] (by kernel_rfl) (by kernel_rfl) (fun _ _ d _ _ h => by cases d <;> exact h) ?_
          have hb : Below wr.heap.size wr wr.drew := (Below.refl _ _).drew
          iterate 5
            refine wpS_takeL rfl rfl ?_
            go_big_quiet_step (rfl)
            refine wpQuiet_nil ?_
          refine wpS_doL rfl ?_
          intro K hK
          go_wp2_with ((first | (go_at_call 33; refine (negative_any _ _).mono ?_; rintro e w2 ⟨rfl, hn⟩) | (go_at_call 30; refine (signedk_is P u s HS.out _).mono ?_; rintro e w3 ⟨rfl, hn⟩)))
          replace hb := hb.trans (hn.mono hb.size)
          refine hK.out _ _ (up_iff.2 hb) ?_
          clear hK K
          clear hn
          refine wpS_doL rfl ?_
          intro K hK
          go_wp2_with ((first | (go_at_call 33; refine (negative_any _ _).mono ?_; rintro e w2 ⟨rfl, hn⟩) | (go_at_call 30; refine (signedk_is P u s HS.out _).mono ?_; rintro e w3 ⟨rfl, hn⟩)))
          replace hb := hb.trans (hn.mono hb.size)
          refine hK.out _ _ (up_iff.2 hb) ?_
          clear hK K
          clear hn
          refine wpS_takeL rfl rfl ?_
          go_big_quiet_step (rfl)
          refine wpQuiet_nil ?_
          refine wpS_doL rfl ?_
          intro K hK
          go_wp2_with ((first | (go_at_call 33; refine (negative_any _ _).mono ?_; rintro e w2 ⟨rfl, hn⟩) | (go_at_call 30; refine (signedk_is P u s HS.out _).mono ?_; rintro e w3 ⟨rfl, hn⟩)))
          replace hb := hb.trans (hn.mono hb.size)
          refine hK.out _ _ (up_iff.2 hb) ?_
          clear hK K
          clear hn
          iterate 2
            refine wpS_takeL rfl rfl ?_
            go_big_quiet_step (rfl)
            refine wpQuiet_nil ?_
          refine wpS_nil ?_
          simp only [List.drop_succ_cons, List.drop_zero]
          have k0 : Var w3 (w.heap.size + 1 + 1) 0 := HD.out.k0.of hb
          have hbb := HD.out.below.trans (hb.mono HD.out.below.size)
          clear ca cb la lb lo hu co1 hb HD
          have c0 := Var.c k0
          have f0 := Var.f k0
          have K0 := Lib.hid k0
          clear k0
          go_wp2
          refine post_world ?_
          intro Wf hWf
          have kf : Var Wf (w.heap.size + 1 + 1) (bif s then sgV P u else 0) := by rw [hWf]; exact Var.put4 K0.out _
          have hbf : Below w.heap.size w Wf := by rw [hWf]; exact below_set4 hbb (by omega) _ _ _ _
          have c := Var.c kf
          clear hWf c0 f0
          simp [bodyPost, results, Tryd.results32, go_sem, c]
          exact hbf

theorem mul_spec {a b : Int} (ia : InI a) (ib : InI b) (u : Bool) (hu : (ng a != ng b) = u) (P : Int) (hP : sz a * sz b = P) :
    (decide (P < b256) && sgB P u) = okI (a * b) ∧ (bif u then -P else P) = a * b ∧ 0 ≤ P := by
  have ha := sz_in ia
  have hb := sz_in ib
  have na := ng_in ia
  have nb := ng_in ib
  have hp0 : 0 ≤ P := by rw [← hP, ha, hb]; exact Int.mul_nonneg (by omega) (by omega)
  have hv : (bif u then -P else P) = a * b := by
    rw [← hu, ← hP, ha, hb, na, nb]
    rcases Int.lt_or_le a 0 with h1 | h1 <;> rcases Int.lt_or_le b 0 with h2 | h2
    · rw [Int.ofNat_natAbs_of_nonpos (by omega), Int.ofNat_natAbs_of_nonpos (by omega)]; simp [h1, h2, Int.neg_mul_neg]
    · rw [Int.ofNat_natAbs_of_nonpos (by omega), Int.natAbs_of_nonneg h2]; simp [h1, Int.not_lt.2 h2, Int.neg_mul]
    · rw [Int.natAbs_of_nonneg h1, Int.ofNat_natAbs_of_nonpos (by omega)]; simp [h2, Int.not_lt.2 h1, Int.mul_neg]
    · rw [Int.natAbs_of_nonneg h1, Int.natAbs_of_nonneg h2]; simp [Int.not_lt.2 h1, Int.not_lt.2 h2]
  refine ⟨?_, hv, hp0⟩
  rw [← hv]
  rw [Bool.eq_iff_iff]
  unfold okI
  rw [Bool.and_eq_true, decide_eq_true_iff, decide_eq_true_iff]
  unfold sgB InI
  cases u
  · rw [cond_false, cond_false, Bool.not_eq_true', ← Bool.not_eq_true, ng_iff]
    unfold b255 b256 at *; omega
  · rw [cond_true, cond_true, Bool.or_eq_true, ng_iff, eq4_0, decide_eq_true_iff]
    unfold b255 b256 at *; omega

theorem Mul_ok (x y : Int) (w : World) (ix : InI x) (iy : InI y) : Calls Tryd.prog 32 #[wI x, wI y] w fun e w' => e = .returned (.tuple #[wI (bif okI (x * y) then x * y else 0), .bool (okI (x * y))]) ∧ Below w.heap.size w w' := by
  obtain ⟨u, hu⟩ : ∃ u, (ng x != ng y) = u := ⟨_, rfl⟩
  obtain ⟨P, hP⟩ : ∃ P, sz x * sz y = P := ⟨_, rfl⟩
  obtain ⟨h1, h2, h3⟩ := mul_spec ix iy u hu P hP
  have b1 := sz_bd ix
  have b2 := sz_bd iy
  have e1 : sz x % b256 = sz x := Int.emod_eq_of_lt b1.1 (by unfold b255 b256 at *; omega)
  have e2 : sz y % b256 = sz y := Int.emod_eq_of_lt b2.1 (by unfold b255 b256 at *; omega)
  have T := Mul_go x y w u (by rw [← hu]; cases ng x <;> cases ng y <;> rfl) P (by rw [e1, e2]; exact hP) _ rfl _ rfl
  rw [h1] at T
  unfold sgV at T
  rw [h2] at T
  exact T
theorem Mul_is (x y : Int) (o : Bool) (ho : okI (x * y) = o) (p : Int) (hp : (bif o then x * y else 0) = p) (w : World) (ix : InI x) (iy : InI y) :
    Calls Tryd.prog 32 #[wI x, wI y] w fun e w' => e = .returned (.tuple #[wI p, .bool o]) ∧ Below w.heap.size w w' := by
  subst ho; subst hp; exact Mul_ok x y w ix iy
end Go.Proofs.YtcfiemeknocgjaaDoor

namespace Go.Proofs.YtcfiemeknocgjaaDoor
open Go.RowKit

theorem or_dis (a c : Int) (h0 : 0 ≤ a) (h1 : a < 9223372036854775808) (k0 : 0 ≤ c) (k1 : c < 18446744073709551616) : bits .or .u64 a (IntKind.u64.wrap (c * 9223372036854775808)) = a + c % 2 * 9223372036854775808 := by
  have e : IntKind.u64.wrap (c * 9223372036854775808) = c % 2 * 9223372036854775808 := by
    show c * 9223372036854775808 % 18446744073709551616 = _
    omega
  rw [e]
  obtain ⟨a, rfl⟩ := Int.eq_ofNat_of_zero_le h0
  obtain ⟨t, ht⟩ := Int.eq_ofNat_of_zero_le (show 0 ≤ c % 2 by omega)
  rw [ht]
  have ht2 : t < 2 := by omega
  have e2 : ((t : Int) * 9223372036854775808) = ((9223372036854775808 * t : Nat) : Int) := by omega
  rw [e2, bits_or_u64_nat a (9223372036854775808 * t) (by omega) (by omega)]
  have := Nat.two_pow_add_eq_or_of_lt (i := 63) (b := a) (by omega) t
  rw [Nat.or_comm] at this
  rw [show (2 : Nat) ^ 63 = 9223372036854775808 by decide] at this
  omega
set_option maxRecDepth 100000 in
set_option maxHeartbeats 1000000 in
theorem halved_raw (a0 a1 a2 a3 h0 h1 h2 : Int) (w : World) (e0 : bits .or .u64 (a0 / 2) (IntKind.u64.wrap (a1 * 9223372036854775808)) = h0) (e1 : bits .or .u64 (a1 / 2) (IntKind.u64.wrap (a2 * 9223372036854775808)) = h1)
    (e2 : bits .or .u64 (a2 / 2) (IntKind.u64.wrap (a3 * 9223372036854775808)) = h2) :
    Calls Tryd.prog 43 #[.agg #[.int .u64 a0, .int .u64 a1, .int .u64 a2, .int .u64 a3]] w fun e w' =>
      e = .returned (.agg #[.int .u64 h0, .int .u64 h1, .int .u64 h2, .int .u64 (a3 / 2)]) ∧ Below w.heap.size w w' := by
  go_enter Tryd.func43, Tryd.ntmps43
  go_wp2
  refine wp_loop_rounds 5 ?_
  iterate 3
    rw [rounds_succ]
    go_wp2
    go_region
    go_wp2
  rw [rounds_succ]
  go_wp2
  rw [rounds_succ]
  go_wp2
  simp [bodyPost, results, Tryd.results43, go_sem]
  exact (((((Below.refl _ _).alloc (Nat.le_refl _) _).alloc (by simp) _).drew).drew).drew
theorem halved_any (x : Int) (h0 : 0 ≤ x) (h1 : x < b256) (w : World) :
    Calls Tryd.prog 43 #[wI x] w fun e w' => e = .returned (wI (x / 2)) ∧ Below w.heap.size w w' := by
  refine (halved_raw (wd0 x) (wd1 x) (wd2 x) (wd3 x) (wd0 (x / 2)) (wd1 (x / 2)) (wd2 (x / 2)) w ?_ ?_ ?_).mono fun e w' ⟨he, hw⟩ => ⟨?_, hw⟩
  · rw [or_dis _ _ (by unfold wd0 b64; omega) (by unfold wd0 b64; omega) (by unfold wd1 b64; omega) (by unfold wd1 b64; omega)]
    unfold wd0 wd1 b64; omega
  · rw [or_dis _ _ (by unfold wd1 b64; omega) (by unfold wd1 b64; omega) (by unfold wd2 b64; omega) (by unfold wd2 b64; omega)]
    unfold wd1 wd2 b128 b64; omega
  · rw [or_dis _ _ (by unfold wd2 b64; omega) (by unfold wd2 b64; omega) (by unfold wd3 b64; omega) (by unfold wd3 b64; omega)]
    unfold wd2 wd3 b128 b192 b64; omega
  · rw [he]
    have : wd3 x / 2 = wd3 (x / 2) := by unfold wd3 b192 b64 b256 at *; omega
    rw [this]
end Go.Proofs.YtcfiemeknocgjaaDoor

namespace Go.Proofs.YtcfiemeknocgjaaDoor
open Go.RowKit Go.Shelf

def Tryd.lays129_ren : Go.Shelf.Ren := ⟨fun | 129 => 41 | n => n, fun | 53 => 22 | 3 => 3 | 4 => 4 | 46 => 74 | 5 => 5 | 9 => 9 | n => n, fun | n => n⟩
theorem Tryd.lays129 : Go.Proofs.Lays.n129 Tryd.prog Tryd.lays129_ren := {
  mixed := by kernel_rfl
  f129 := Tryd.func41.trans (congrArg some (by kernel_rfl))
  t3 := Tryd.underlying3
  a3 := Tryd.isAgg3
  z3 := Tryd.sizeOf3
  v3 := Tryd.zeroValue3
  t4 := Tryd.underlying4
  a4 := Tryd.isAgg4
  z4 := Tryd.sizeOf4
  v4 := Tryd.zeroValue4
  t5 := Tryd.underlying5
  a5 := Tryd.isAgg5
  z5 := Tryd.sizeOf5
  v5 := Tryd.zeroValue5
  t9 := Tryd.underlying9
  a9 := Tryd.isAgg9
  z9 := Tryd.sizeOf9
  v9 := Tryd.zeroValue9
  t46 := Tryd.underlying74
  a46 := Tryd.isAgg74
  z46 := Tryd.sizeOf74
  v46 := Tryd.zeroValue74
  t53 := Tryd.underlying22
  a53 := Tryd.isAgg22
  z53 := Tryd.sizeOf22
  v53 := Tryd.zeroValue22 }
theorem Len64_any (x : Int) (w : World) (h0 : 0 ≤ x) (h1 : x < 18446744073709551616) :
    Calls Tryd.prog 41 #[.int .u64 x] w fun e w' => e = .returned (.int .i64 (Lib.bitLen x.toNat)) ∧ w' = w := Any.bits_Len64 Tryd.lays129 x w h0 (by omega)

set_option maxRecDepth 100000 in
set_option maxHeartbeats 1000000 in
theorem Bits_3 (x : Int) (a0 a1 a2 a3 : Int) (n : ¬ a3 = 0) (h : 0 ≤ a3 ∧ a3 < 18446744073709551616) (r : Int) (hr : IntKind.i64.wrap (192 + (Lib.bitLen a3.toNat : Int)) = r) (w : World) (hs : ∀ w, Calls Tryd.prog 28 #[wI x] w fun e w' => e = .returned (.agg #[.int .u64 a0, .int .u64 a1, .int .u64 a2, .int .u64 a3]) ∧ Below w.heap.size w w') :
    Calls Tryd.prog 19 #[wI x] w fun e w' => e = .returned (.int .i64 r) ∧ Below w.heap.size w w' := by
  have HH := Lib.hid h
  clear h
  have HS := Lib.hid hs
  clear hs
  go_enter Tryd.func19, Tryd.ntmps19
  go_wp2_with fail
  refine calls_w ?_
  intro W0 hW0
  have hb0 : Below w.heap.size w W0 := by rw [hW0]; exact (Below.refl _ _).alloc (Nat.le_refl _) _
  clear hW0
  refine (HS.out _).mono ?_
  rintro e w1 ⟨rfl, hb1⟩
  replace hb0 := hb0.trans (hb1.mono hb0.size)
  clear hb1 HS
  go_wp2_with fail
  refine wp_loop_rounds 5 ?_
  rw [rounds_succ]
  go_wp2_with fail
  refine (Len64_any a3 _ HH.out.1 HH.out.2).mono ?_
  rintro e w2 ⟨rfl, rfl⟩
  go_wp2
  simp [bodyPost, results, Tryd.results19, go_sem]
  exact hb0.alloc hb0.size _

set_option maxRecDepth 100000 in
set_option maxHeartbeats 1000000 in
theorem Bits_2 (x : Int) (a0 a1 a2 : Int) (n : ¬ a2 = 0) (h : 0 ≤ a2 ∧ a2 < 18446744073709551616) (r : Int) (hr : IntKind.i64.wrap (128 + (Lib.bitLen a2.toNat : Int)) = r) (w : World) (hs : ∀ w, Calls Tryd.prog 28 #[wI x] w fun e w' => e = .returned (.agg #[.int .u64 a0, .int .u64 a1, .int .u64 a2, .int .u64 0]) ∧ Below w.heap.size w w') :
    Calls Tryd.prog 19 #[wI x] w fun e w' => e = .returned (.int .i64 r) ∧ Below w.heap.size w w' := by
  have HH := Lib.hid h
  clear h
  have HS := Lib.hid hs
  clear hs
  go_enter Tryd.func19, Tryd.ntmps19
  go_wp2_with fail
  refine calls_w ?_
  intro W0 hW0
  have hb0 : Below w.heap.size w W0 := by rw [hW0]; exact (Below.refl _ _).alloc (Nat.le_refl _) _
  clear hW0
  refine (HS.out _).mono ?_
  rintro e w1 ⟨rfl, hb1⟩
  replace hb0 := hb0.trans (hb1.mono hb0.size)
  clear hb1 HS
  go_wp2_with fail
  refine wp_loop_rounds 5 ?_
  rw [rounds_succ]
  go_wp2_with fail
  rw [rounds_succ]
  go_wp2_with fail
  refine (Len64_any a2 _ HH.out.1 HH.out.2).mono ?_
  rintro e w2 ⟨rfl, rfl⟩
  go_wp2
  simp [bodyPost, results, Tryd.results19, go_sem]
  exact hb0.alloc hb0.size _

set_option maxRecDepth 100000 in
set_option maxHeartbeats 1000000 in
theorem Bits_1 (x : Int) (a0 a1 : Int) (n : ¬ a1 = 0) (h : 0 ≤ a1 ∧ a1 < 18446744073709551616) (r : Int) (hr : IntKind.i64.wrap (64 + (Lib.bitLen a1.toNat : Int)) = r) (w : World) (hs : ∀ w, Calls Tryd.prog 28 #[wI x] w fun e w' => e = .returned (.agg #[.int .u64 a0, .int .u64 a1, .int .u64 0, .int .u64 0]) ∧ Below w.heap.size w w') :
    Calls Tryd.prog 19 #[wI x] w fun e w' => e = .returned (.int .i64 r) ∧ Below w.heap.size w w' := by
  have HH := Lib.hid h
  clear h
  have HS := Lib.hid hs
  clear hs
  go_enter Tryd.func19, Tryd.ntmps19
  go_wp2_with fail
  refine calls_w ?_
  intro W0 hW0
  have hb0 : Below w.heap.size w W0 := by rw [hW0]; exact (Below.refl _ _).alloc (Nat.le_refl _) _
  clear hW0
  refine (HS.out _).mono ?_
  rintro e w1 ⟨rfl, hb1⟩
  replace hb0 := hb0.trans (hb1.mono hb0.size)
  clear hb1 HS
  go_wp2_with fail
  refine wp_loop_rounds 5 ?_
  rw [rounds_succ]
  go_wp2_with fail
  rw [rounds_succ]
  go_wp2_with fail
  rw [rounds_succ]
  go_wp2_with fail
  refine (Len64_any a1 _ HH.out.1 HH.out.2).mono ?_
  rintro e w2 ⟨rfl, rfl⟩
  go_wp2
  simp [bodyPost, results, Tryd.results19, go_sem]
  exact hb0.alloc hb0.size _

set_option maxRecDepth 100000 in
set_option maxHeartbeats 1000000 in
theorem Bits_0 (x : Int) (a0 : Int) (n : ¬ a0 = 0) (h : 0 ≤ a0 ∧ a0 < 18446744073709551616) (r : Int) (hr : IntKind.i64.wrap ((Lib.bitLen a0.toNat : Int)) = r) (w : World) (hs : ∀ w, Calls Tryd.prog 28 #[wI x] w fun e w' => e = .returned (.agg #[.int .u64 a0, .int .u64 0, .int .u64 0, .int .u64 0]) ∧ Below w.heap.size w w') :
    Calls Tryd.prog 19 #[wI x] w fun e w' => e = .returned (.int .i64 r) ∧ Below w.heap.size w w' := by
  have HH := Lib.hid h
  clear h
  have HS := Lib.hid hs
  clear hs
  go_enter Tryd.func19, Tryd.ntmps19
  go_wp2_with fail
  refine calls_w ?_
  intro W0 hW0
  have hb0 : Below w.heap.size w W0 := by rw [hW0]; exact (Below.refl _ _).alloc (Nat.le_refl _) _
  clear hW0
  refine (HS.out _).mono ?_
  rintro e w1 ⟨rfl, hb1⟩
  replace hb0 := hb0.trans (hb1.mono hb0.size)
  clear hb1 HS
  go_wp2_with fail
  refine wp_loop_rounds 5 ?_
  rw [rounds_succ]
  go_wp2_with fail
  rw [rounds_succ]
  go_wp2_with fail
  rw [rounds_succ]
  go_wp2_with fail
  rw [rounds_succ]
  go_wp2_with fail
  refine (Len64_any a0 _ HH.out.1 HH.out.2).mono ?_
  rintro e w2 ⟨rfl, rfl⟩
  go_wp2
  simp [bodyPost, results, Tryd.results19, go_sem]
  exact hb0.alloc hb0.size _

set_option maxRecDepth 100000 in
set_option maxHeartbeats 1000000 in
theorem Bits_z (x : Int)   (w : World) (hs : ∀ w, Calls Tryd.prog 28 #[wI x] w fun e w' => e = .returned (.agg #[.int .u64 0, .int .u64 0, .int .u64 0, .int .u64 0]) ∧ Below w.heap.size w w') :
    Calls Tryd.prog 19 #[wI x] w fun e w' => e = .returned (.int .i64 0) ∧ Below w.heap.size w w' := by
  have HS := Lib.hid hs
  clear hs
  go_enter Tryd.func19, Tryd.ntmps19
  go_wp2_with fail
  refine calls_w ?_
  intro W0 hW0
  have hb0 : Below w.heap.size w W0 := by rw [hW0]; exact (Below.refl _ _).alloc (Nat.le_refl _) _
  clear hW0
  refine (HS.out _).mono ?_
  rintro e w1 ⟨rfl, hb1⟩
  replace hb0 := hb0.trans (hb1.mono hb0.size)
  clear hb1 HS
  go_wp2_with fail
  refine wp_loop_rounds 5 ?_
  rw [rounds_succ]
  go_wp2_with fail
  rw [rounds_succ]
  go_wp2_with fail
  rw [rounds_succ]
  go_wp2_with fail
  rw [rounds_succ]
  go_wp2_with fail
  rw [rounds_succ]
  go_wp2
  simp [bodyPost, results, Tryd.results19, go_sem]
  exact hb0.alloc hb0.size _

end Go.Proofs.YtcfiemeknocgjaaDoor

namespace Go.Proofs.YtcfiemeknocgjaaDoor
open Go.RowKit

/-- a slice of ints that holds these digits -/
structure Sl (w : World) (ao : Option Addr) (b : Nat) (cap : Nat) (ds : List Int) : Prop where
  ptr : 0 < ds.length → ao = some ⟨b, 0, none⟩
  nil : ao = none → cap = 0
  capl : ds.length ≤ cap
  len : ds.length < 1073741824
  capb : cap ≤ 9223372036854775807
  cell : ∀ i, i < ds.length → w.cell? ⟨b, i, none⟩ = some (.int .i64 (ds.getD i 0))
  blk : 0 < ds.length → b < w.heap.size
theorem Sl.of {w w' : World} {ao : Option Addr} {b cap : Nat} {ds : List Int} (h : Sl w ao b cap ds) (hb : Below w.heap.size w w') : Sl w' ao b cap ds :=
  ⟨h.ptr, h.nil, h.capl, h.len, h.capb, fun i hi => by rw [hb.cell (p := ⟨b, i, none⟩) (h.blk (by omega))]; exact h.cell i hi, fun hl => Nat.lt_of_lt_of_le (h.blk hl) hb.size⟩

/-- a Big that is the number n, of at most L digits -/
def Big (w : World) (v : Value) (n : Int) (L : Nat) : Prop :=
  ∃ (neg : Bool) (ao : Option Addr) (b cap : Nat) (ds : List Int), v = .agg #[.bool neg, .slice ao ds.length cap] ∧ Sl w ao b cap ds ∧ DigOk ds ∧ Norm ds ∧ (ds = [] → neg = false ∧ ao = none) ∧ n = (bif neg then -dval ds else dval ds) ∧ ds.length ≤ L
theorem Big.of {w w' : World} {v : Value} {n : Int} {L : Nat} (h : Big w v n L) (hb : Below w.heap.size w w') : Big w' v n L := by
  obtain ⟨neg, ao, b, cap, ds, h1, h2, h3⟩ := h
  exact ⟨neg, ao, b, cap, ds, h1, h2.of hb, h3⟩
theorem Big.drew {w : World} {v : Value} {n : Int} {L : Nat} (h : Big w v n L) : Big w.drew v n L := h.of (Below.refl _ _).drew
theorem Big.zero (w : World) (L : Nat) : Big w (.agg #[.bool false, .slice none 0 0]) 0 L :=
  ⟨false, none, 0, 0, [], rfl, ⟨fun h => absurd h (Nat.lt_irrefl 0), fun _ => rfl, Nat.le_refl _, by decide, by decide, fun i hi => absurd hi (Nat.not_lt_zero i), fun h => absurd h (Nat.lt_irrefl 0)⟩, DigOk.nil, .inl rfl, fun _ => ⟨rfl, rfl⟩, rfl, Nat.zero_le _⟩
theorem Big.mono {w : World} {v : Value} {n : Int} {L L' : Nat} (h : Big w v n L) (hl : L ≤ L') : Big w v n L' := by
  obtain ⟨neg, ao, b, cap, ds, h1, h2, h3, h4, h5, h6, h7⟩ := h
  exact ⟨neg, ao, b, cap, ds, h1, h2, h3, h4, h5, h6, Nat.le_trans h7 hl⟩


/-- it hands back some Big that is n -/
def GivesBig (w : World) (n : Int) (L : Nat) (e : Ending) (w' : World) : Prop := ∃ v, e = .returned v ∧ Big w' v n L ∧ Below w.heap.size w w'

set_option maxRecDepth 100000 in
theorem Minus_any (v : Value) (n : Int) (L : Nat) (w : World) (h : Big w v n L) : Calls Tryd.prog 18 #[v] w (GivesBig w (-n) L) := by
  obtain ⟨neg, ao, b, cap, ds, rfl, hs, hd, hn, hz, hv, hl⟩ := h
  by_cases h0 : ds = []
  · subst h0
    obtain ⟨rfl, rfl⟩ := hz rfl
    have hc := hs.nil rfl
    subst hc
    have HV := Lib.hid hv
    clear hv hz hn hd hs
    have hlen : ([] : List Int).length = 0 := rfl
    rw [hlen]
    clear hlen
    go_enter Tryd.func18, Tryd.ntmps18
    go_wp2
    simp [bodyPost, results, Tryd.results18, go_sem]
    refine ⟨_, rfl, ?_, ?_⟩
    · rw [HV.out]; exact Big.zero _ _
    · (repeat (first | exact Below.refl _ _ | refine below_drewN ?_ _ | refine Below.drew ?_ | refine Below.alloc ?_ (by simp) _ | refine Below.alloc ?_ (by simp; omega) _))
  · have hlp : 0 < ds.length := List.length_pos_iff.2 h0
    have hl0 : ((ds.length : Int) == 0) = false := by simp; omega
    have hlb := hs.len
    have HV := Lib.hid hv
    have HS := Lib.hid hs
    have HD := Lib.hid (And.intro hd (And.intro hn hl))
    clear hz hv hs hd hn hl
    go_enter Tryd.func18, Tryd.ntmps18
    go_wp2
    simp [bodyPost, results, Tryd.results18, go_sem]
    have hb : Below w.heap.size w ((w.alloc (Obj.cells #[Value.bool neg, Value.slice ao ds.length cap] 34)).alloc (Obj.cells #[Value.bool !neg, Value.slice ao ds.length cap] 34)) := by
      (repeat (first | exact Below.refl _ _ | refine below_drewN ?_ _ | refine Below.drew ?_ | refine Below.alloc ?_ (by simp) _ | refine Below.alloc ?_ (by simp; omega) _))
    exact ⟨_, rfl, ⟨!neg, ao, b, cap, ds, rfl, HS.out.of hb, HD.out.1, HD.out.2.1, fun h => absurd h h0, by rw [HV.out]; cases neg <;> simp, HD.out.2.2⟩, hb⟩

set_option maxRecDepth 100000 in
set_option maxHeartbeats 1000000 in
theorem sizes_any (ao bo : Option Addr) (b b' cap cap' : Nat) (xs ys : List Int) (w : World) (ha : Sl w ao b cap xs) (hb : Sl w bo b' cap' ys) (da : DigOk xs) (db : DigOk ys) (na : Norm xs) (nb : Norm ys) :
    Calls Tryd.prog 42 #[.slice ao xs.length cap, .slice bo ys.length cap'] w fun e w' => e = .returned (.int .i64 (cmpI (dval xs) (dval ys))) ∧ Below w.heap.size w w' := by
  have HA := Lib.hid ha
  have HB := Lib.hid hb
  have la := ha.len
  have lb := hb.len
  clear ha hb
  rcases Nat.lt_trichotomy xs.length ys.length with h | h | h
  · rw [cmpI_lt (len_lt da db nb h)]
    clear da db na nb
    go_enter Tryd.func42, Tryd.ntmps42
    go_wp2
    go_ret
    exact ⟨rfl, Below.refl _ _⟩
  · obtain ⟨n, hn⟩ : ∃ n, n = xs.length := ⟨_, rfl⟩
    have hn' : n = ys.length := hn.trans h
    have HN := Lib.hid hn
    have HN' := Lib.hid hn'
    have e1 : xs.length = n := hn.symm
    have e2 : ys.length = n := hn'.symm
    rw [e1, e2]
    rw [e1] at la
    clear e1 e2 hn hn' h lb
    have D := Lib.hid (And.intro da db)
    clear da db na nb
    go_enter Tryd.func42, Tryd.ntmps42
    go_wp2
    go_loopw [5] (fun i wr => ∃ k : Nat, k ≤ n ∧ i = .int .i64 ((k : Int) - 1) ∧ Hid (xs.drop k = ys.drop k) ∧ Below w.heap.size w wr) (fun i _ => (intOf i + 1).toNat)
    case atStart => exact ⟨n, Nat.le_refl _, rfl, (by rw [List.drop_eq_nil_of_le (by rw [HN.out]; exact Nat.le_refl _), List.drop_eq_nil_of_le (by rw [HN'.out]; exact Nat.le_refl _)] : xs.drop n = ys.drop n), Below.refl _ _⟩
    case round =>
      rename_i i0 wr
      obtain ⟨k, hk, rfl, hd, hbl⟩ := hrel
      cases k with
      | zero =>
        have e1 : ((0 : Nat) : Int) - 1 = -1 := by omega
        rw [e1]
        clear e1
        go_wp2
        go_ret
        have e : dval xs = dval ys := by have := hd.out; simp only [List.drop_zero] at this; rw [this]
        exact ⟨by rw [e, cmpI_eq]; rfl, hbl⟩
      | succ j =>
        have e1 : ((j + 1 : Nat) : Int) - 1 = (j : Int) := by omega
        rw [e1]
        clear e1
        have ja : j < xs.length := by rw [← HN.out]; omega
        have jb : j < ys.length := by rw [← HN'.out]; omega
        obtain rfl := HA.out.ptr (by omega)
        obtain rfl := HB.out.ptr (by omega)
        have ba := HA.out.blk (by omega)
        have bb := HB.out.blk (by omega)
        have c0 : wr.cell? ⟨b, j, none⟩ = some (.int .i64 (xs.getD j 0)) := by rw [hbl.cell (p := ⟨b, j, none⟩) ba]; exact HA.out.cell j ja
        have c1 : wr.cell? ⟨b', j, none⟩ = some (.int .i64 (ys.getD j 0)) := by rw [hbl.cell (p := ⟨b', j, none⟩) bb]; exact HB.out.cell j jb
        have JA := Lib.hid (And.intro ja (HN.out.symm.trans HN'.out))
        clear ja jb ba bb
        obtain ⟨x, hx⟩ : ∃ x, x = xs.getD j 0 := ⟨_, rfl⟩
        obtain ⟨y, hy⟩ : ∃ y, y = ys.getD j 0 := ⟨_, rfl⟩
        rw [← hx] at c0
        rw [← hy] at c1
        have HX := Lib.hid hx
        have HY := Lib.hid hy
        clear hx hy
        rcases Int.lt_trichotomy x y with hxy | hxy | hxy
        · go_wp2
          go_quiet (fail)
          go_wp2
          go_ret
          exact ⟨by rw [cmpI_lt (dig_lt D.out.1 D.out.2 JA.out.1 JA.out.2 hd.out (by rw [← HX.out, ← HY.out]; exact hxy))]; rfl, below_drewN hbl _⟩
        · subst hxy
          go_wp2
          go_quiet (fail)
          go_wp2
          go_quiet (fail)
          go_wp2
          go_roundw
          case rel => exact ⟨j, by omega, rfl, drop_eq JA.out.1 JA.out.2 hd.out (by rw [← HX.out, ← HY.out]), below_drewN hbl _⟩
          case measure => simp [intOf]
        · go_wp2
          go_quiet (fail)
          go_wp2
          go_quiet (fail)
          go_wp2
          go_ret
          exact ⟨by rw [cmpI_gt (dig_lt D.out.2 D.out.1 (by rw [← JA.out.2]; exact JA.out.1) JA.out.2.symm hd.out.symm (by rw [← HX.out, ← HY.out]; exact hxy))]; rfl, below_drewN (below_drewN hbl _) _⟩
  · have e : dval ys < dval xs := len_lt db da na h
    rw [cmpI_gt e]
    clear da db na nb e
    go_enter Tryd.func42, Tryd.ntmps42
    go_wp2
    go_ret
    exact ⟨rfl, Below.refl _ _⟩

theorem cmpI_neg (x y : Int) : cmpI (-y) (-x) = cmpI x y := by
  rcases Int.lt_trichotomy x y with h | h | h
  · rw [cmpI_lt h, cmpI_lt (by omega)]
  · subst h; rw [cmpI_eq, cmpI_eq]
  · rw [cmpI_gt h, cmpI_gt (by omega)]

set_option maxRecDepth 100000 in
set_option maxHeartbeats 1000000 in
theorem bigCmp_any (v v' : Value) (n m : Int) (L L' : Nat) (w : World) (h : Big w v n L) (h' : Big w v' m L') :
    Calls Tryd.prog 20 #[v, v'] w fun e w' => e = .returned (.int .i64 (cmpI n m)) ∧ Below w.heap.size w w' := by
  obtain ⟨neg, ao, b, cap, ds, rfl, hs, hd, hn, hz, hv, hl⟩ := h
  obtain ⟨neg', ao', b', cap', ds', rfl, hs', hd', hn', hz', hv', hl'⟩ := h'
  have HV := Lib.hid hv
  have HV' := Lib.hid hv'
  have HS := Lib.hid hs
  have HS' := Lib.hid hs'
  have HD := Lib.hid (And.intro hd (And.intro hn hz))
  have HD' := Lib.hid (And.intro hd' (And.intro hn' hz'))
  clear hz hv hs hd hn hl hz' hv' hs' hd' hn' hl'
  have b0 := (dval_bd HD.out.1).1
  have b0' := (dval_bd HD'.out.1).1
  have pos : neg = true → 0 < dval ds := fun hneg => by
    rcases Int.lt_or_eq_of_le b0 with h | h
    · exact h
    · have := (HD.out.2.2 (norm_zero HD.out.1 HD.out.2.1 h.symm)).1; rw [hneg] at this; cases this
  have pos' : neg' = true → 0 < dval ds' := fun hneg => by
    rcases Int.lt_or_eq_of_le b0' with h | h
    · exact h
    · have := (HD'.out.2.2 (norm_zero HD'.out.1 HD'.out.2.1 h.symm)).1; rw [hneg] at this; cases this
  have PO := Lib.hid pos
  have PO' := Lib.hid pos'
  clear pos pos' b0 b0'
  have bl2 : ∀ c1 c2 : Array Value, Below w.heap.size w ((w.alloc (.cells c1 34)).alloc (.cells c2 34)) := fun c1 c2 => ((Below.refl _ _).alloc (Nat.le_refl _) _).alloc (by simp) _
  have BL := Lib.hid bl2
  clear bl2
  cases neg <;> cases neg'
  · go_enter Tryd.func20, Tryd.ntmps20
    go_wp2_with fail
    refine (sizes_any ao ao' b b' cap cap' ds ds' _ (HS.out.of (BL.out _ _)) (HS'.out.of (BL.out _ _)) HD.out.1 HD'.out.1 HD.out.2.1 HD'.out.2.1).mono ?_
    rintro e w2 ⟨rfl, hn⟩
    go_wp2
    go_ret
    exact ⟨by rw [HV.out, HV'.out]; rfl, (BL.out _ _).trans (hn.mono (by simp; omega))⟩
  · go_enter Tryd.func20, Tryd.ntmps20
    go_wp2
    go_ret
    refine ⟨?_, BL.out _ _⟩
    have e : m < n := by
      have h1 := (dval_bd HD.out.1).1; have h2 := PO'.out (by trivial)
      rw [HV.out, HV'.out]; simp only [cond_true, cond_false]; omega
    rw [cmpI_gt e]; rfl
  · go_enter Tryd.func20, Tryd.ntmps20
    go_wp2
    go_ret
    refine ⟨?_, BL.out _ _⟩
    have e : n < m := by
      have h1 := (dval_bd HD'.out.1).1; have h2 := PO.out (by trivial)
      rw [HV.out, HV'.out]; simp only [cond_true, cond_false]; omega
    rw [cmpI_lt e]; rfl
  · go_enter Tryd.func20, Tryd.ntmps20
    go_wp2_with fail
    refine (sizes_any ao' ao b' b cap' cap ds' ds _ (HS'.out.of (BL.out _ _)) (HS.out.of (BL.out _ _)) HD'.out.1 HD.out.1 HD'.out.2.1 HD.out.2.1).mono ?_
    rintro e w2 ⟨rfl, hn⟩
    go_wp2
    go_ret
    exact ⟨by rw [HV.out, HV'.out]; simp only [cond_true, cmpI_neg]; rfl, (BL.out _ _).trans (hn.mono (by simp; omega))⟩

theorem cmpI_sign (x : Int) : cmpI x 0 = x.sign := by
  rcases Int.lt_trichotomy x 0 with h | h | h
  · rw [cmpI_lt h, Int.sign_eq_neg_one_of_neg h]
  · subst h; rw [cmpI_eq]; rfl
  · rw [cmpI_gt h, Int.sign_eq_one_of_pos h]

set_option maxRecDepth 100000 in
theorem bigSign_any (v : Value) (n : Int) (L : Nat) (w : World) (h : Big w v n L) :
    Calls Tryd.prog 17 #[v] w fun e w' => e = .returned (.int .i64 n.sign) ∧ Below w.heap.size w w' := by
  rw [← cmpI_sign]
  have HB := Lib.hid h
  obtain ⟨neg, ao, b, cap, ds, rfl, h⟩ := h
  clear h
  go_enter Tryd.func17, Tryd.ntmps17
  go_wp2_with fail
  refine (bigCmp_any _ _ n 0 L L _ (HB.out.of ((Below.refl _ _).alloc (Nat.le_refl _) _)) (Big.zero _ _)).mono ?_
  rintro e w2 ⟨rfl, hn⟩
  go_wp2
  go_ret
  exact ⟨rfl, ((Below.refl _ _).alloc (Nat.le_refl _) _).trans (hn.mono (by simp))⟩
end Go.Proofs.YtcfiemeknocgjaaDoor

namespace Go.Proofs.YtcfiemeknocgjaaDoor
open Go.RowKit

theorem Sl.cut {w : World} {b cap : Nat} {ds : List Int} (h : Sl w (some ⟨b, 0, none⟩) b cap ds) {j : Nat} (hj : j < ds.length) : Sl w (some ⟨b, 0, none⟩) b cap (ds.take (j + 1)) := by
  have hl : (ds.take (j + 1)).length = j + 1 := by rw [List.length_take]; omega
  have h1 := h.capl
  have h2 := h.len
  refine ⟨fun _ => rfl, fun h => (by cases h), by omega, by omega, h.capb, fun i hi => ?_, fun _ => h.blk (by omega)⟩
  rw [hl] at hi
  rw [h.cell i (by omega)]
  simp [hi]
theorem Sl.below {w w' : World} {ao : Option Addr} {b cap : Nat} {ds : List Int} (h : Sl w ao b cap ds) (hb : Below w.heap.size w w') : Sl w' ao b cap ds := h.of hb

set_option maxRecDepth 100000 in
set_option maxHeartbeats 1000000 in
theorem trim_any (neg : Bool) (ao : Option Addr) (b cap : Nat) (ds : List Int) (w : World) (hs : Sl w ao b cap ds) (hd : DigOk ds) (L : Nat) (hL : ds.length ≤ L) :
    Calls Tryd.prog 45 #[.agg #[.bool neg, .slice ao ds.length cap]] w (GivesBig w (bif neg then -dval ds else dval ds) L) := by
  have HS := Lib.hid hs
  have HD := Lib.hid hd
  have HL := Lib.hid hL
  have ll := hs.len
  have cl := hs.capl
  have cb := hs.capb
  clear hs hd hL
  obtain ⟨N, hN⟩ : ∃ N, N = ds.length := ⟨_, rfl⟩
  have HN := Lib.hid hN
  rw [← hN] at ll cl ⊢
  clear hN
  go_enter Tryd.func45, Tryd.ntmps45
  go_wp2_with fail
  refine name_world ?_
  intro W hW
  have k0 : Blk W w.heap.size #[.bool neg, .slice ao N cap] 34 := by rw [hW]; exact (Blk.new _ _ _).alloc _
  have k1 : Blk W (w.heap.size + 1) #[.bool false, .slice none 0 0] 34 := by rw [hW]; exact Blk.new1 _ _ _ _
  have hb0 : Below w.heap.size w W := by rw [hW]; (repeat (first | exact Below.refl _ _ | refine below_drewN ?_ _ | refine Below.drew ?_ | refine Below.alloc ?_ (by simp) _ | refine Below.alloc ?_ (by simp; omega) _))
  clear hW
  have c0 := k0.cell 0
  have c1 := k0.cell 1
  simp only [List.getElem?_toArray, List.getElem?_cons_zero, List.getElem?_cons_succ] at c0 c1
  have d0 := k1.cell 0
  have d1 := k1.cell 1
  have f0 := k1.free 0
  have f1 := k1.free 1
  simp only [List.getElem?_toArray, List.getElem?_cons_zero, List.getElem?_cons_succ] at d0 d1
  have K0 := Lib.hid k0
  have K1 := Lib.hid k1
  have l0 := k0.lt
  clear k0 k1
  go_loopw [3] (fun i wr => ∃ k : Nat, k ≤ N ∧ i = .int .i64 k ∧ Hid (dval (ds.take k) = dval ds) ∧ W = wr) (fun i _ => (intOf i).toNat)
  case atStart => exact ⟨N, Nat.le_refl _, rfl, (by rw [List.take_of_length_le (by rw [HN.out]; exact Nat.le_refl _)] : dval (ds.take N) = dval ds), rfl⟩
  case round =>
    rename_i i0 wr
    obtain ⟨k, hk, rfl, hd, rfl⟩ := hrel
    cases k with
    | zero =>
      have hz : dval ds = 0 := by have := hd.out; rw [List.take_zero] at this; exact this.symm
      have HZ := Lib.hid hz
      clear hz hd
      go_wp2
      simp [bodyPost, results, Tryd.results45, go_sem, d0, d1]
      refine ⟨_, rfl, ?_, ?_⟩
      · have e : (bif neg then -dval ds else dval ds) = 0 := by rw [HZ.out]; cases neg <;> rfl
        rw [e]; exact Big.zero _ _
      · refine Below.setCell (Below.setCell hb0 ?_ _) ?_ _ <;> exact Nat.le_succ _
    | succ j =>
      have ja : j < ds.length := by rw [← HN.out]; omega
      obtain rfl := HS.out.ptr (by omega)
      have ba := HS.out.blk (by omega)
      have e0 : W.cell? ⟨b, j, none⟩ = some (.int .i64 (ds.getD j 0)) := by rw [hb0.cell (p := ⟨b, j, none⟩) ba]; exact HS.out.cell j ja
      obtain ⟨x, hx⟩ : ∃ x, x = ds.getD j 0 := ⟨_, rfl⟩
      rw [← hx] at e0
      have HX := Lib.hid hx
      have JA := Lib.hid ja
      clear hx ja ba
      have e1 : ((j + 1 : Nat) : Int) - 1 = (j : Int) := by omega
      by_cases hx0 : x = 0
      · subst hx0
        go_wp2
        go_roundw
        case rel => exact ⟨j, by omega, by go_num, dval_take_zero JA.out HX.out.symm hd.out, trivial⟩
        case measure => simp [intOf]
      · have hx1 : (x == 0) = false := by simpa using hx0
        have HX0 := Lib.hid hx0
        clear hx0
        go_wp2_with fail
        have D0 := Lib.hid d0
        have D1 := Lib.hid d1
        clear d0 d1
        have hj1 : (0 : Int) ≤ ((j + 1 : Nat) : Int) := by omega
        refine wp_region_up W.heap.size 6 [(true, 0), (true, 1), (true, 2), (true, 3), (true, 4), (true, 5)] (by kernel_rfl) (by kernel_rfl) (fun _ _ d _ _ h => by cases d <;> exact h) ?_
        have hb : Below W.heap.size W W.drew := (Below.refl _ _).drew
        iterate 6
          refine wpS_takeL rfl rfl ?_
          go_big_quiet_step (rfl)
          refine wpQuiet_nil ?_
        refine wpS_nil ?_
        simp only [List.drop_succ_cons, List.drop_zero]
        have d0 := D0.out
        have d1 := D1.out
        go_wp2
        simp [bodyPost, results, Tryd.results45, go_sem, d0, d1]
        have hbl : Below w.heap.size w ((W.setCell ⟨w.heap.size + 1, 0, none⟩ (.bool neg)).setCell ⟨w.heap.size + 1, 1, none⟩ (.slice (some ⟨b, 0, none⟩) (j + 1) cap)).drew := by
          refine (Below.setCell (Below.setCell hb0 ?_ _) ?_ _).drew <;> exact Nat.le_succ _
        have hlen : (ds.take (j + 1)).length = j + 1 := by rw [List.length_take]; have := JA.out; omega
        refine ⟨_, rfl, ⟨neg, some ⟨b, 0, none⟩, b, cap, ds.take (j + 1), by rw [hlen], ?_, HD.out.take _, .inr ?_, fun h => ?_, by rw [hd.out], ?_⟩, hbl⟩
        · exact (HS.out.of hbl).cut JA.out
        · rw [hlen]
          have := HX0.out
          rw [HX.out] at this
          simpa [List.getElem?_take] using this
        · rw [h] at hlen; simp at hlen
        · rw [hlen]; have := HL.out; have := JA.out; omega
end Go.Proofs.YtcfiemeknocgjaaDoor

namespace Go.Proofs.YtcfiemeknocgjaaDoor
open Go.RowKit

theorem info_int : (Tryd.prog.info? 3).map (fun i => (i.zero, i.size, i.bytes)) = some (some (.int .i64 0), 1, 8) := by kernel_rfl

/-- the digits as Go values -/
def dg (ds : List Int) : List Value := ds.map (Value.int .i64)
theorem dg_snoc (ds : List Int) (d : Int) : dg (ds ++ [d]) = dg ds ++ [.int .i64 d] := by unfold dg; rw [List.map_append]; rfl

theorem own_sl {w : World} {base n : Nat} {v : Value} {ds : List Int} (h : w.ownsRow base 3 1 v n (dg ds)) (hn : ds.length = n) (hl : n < 1073741824) :
    ∃ ao b cap, v = .slice ao ds.length cap ∧ Sl w ao b cap ds := by
  subst hn
  rcases h.2 with ⟨h1, h2⟩ | ⟨g, cap, cur, h1, h2, h3, h4, h5, h6, h7⟩
  · have : ds = [] := List.length_eq_zero_iff.1 h2
    subst this
    exact ⟨none, 0, 0, h1, ⟨fun h => absurd h (Nat.lt_irrefl 0), fun _ => rfl, Nat.le_refl _, by decide, by decide, fun i hi => absurd hi (Nat.not_lt_zero i), fun h => absurd h (Nat.lt_irrefl 0)⟩⟩
  · refine ⟨some ⟨g, 0, none⟩, g, cap, h1, ⟨fun _ => rfl, fun h => (by cases h), h4, hl, by unfold maxLen at h5; omega, fun i hi => ?_, fun _ => (Array.getElem?_eq_some_iff.1 h3).1⟩⟩
    subst h1
    rw [World.ownsRow.cellAt h i (by omega)]
    unfold dg
    simp [hi]

theorem dval_take_succ (ds : List Int) (k : Nat) : dval (ds.take (k + 1)) = dval (ds.take k) + P15 k * ds.getD k 0 := by
  rcases Nat.lt_or_ge k ds.length with h | h
  · rw [List.take_succ_eq_append_getElem h, dval_append, List.length_take, Nat.min_eq_left (by omega), getD_in' h]
    simp [dval]
  · rw [List.take_of_length_le (by omega), List.take_of_length_le h, getD_out h]; simp

/-- one round of more -/
theorem more_step {xs ys ds : List Int} {k : Nat} {cv x y : Int} (hx : x = xs.getD k 0) (hy : y = ys.getD k 0) (b1 : 0 ≤ x ∧ x < 32768) (b2 : 0 ≤ y ∧ y < 32768) (b3 : 0 ≤ cv ∧ cv ≤ 1)
    (h : DigOk ds ∧ ds.length = k ∧ dval ds + P15 k * cv = dval (xs.take k) + dval (ys.take k)) :
    (0 ≤ (cv + x + y) / 32768 ∧ (cv + x + y) / 32768 ≤ 1) ∧ DigOk (ds ++ [(cv + x + y) % 32768]) ∧ (ds ++ [(cv + x + y) % 32768]).length = k + 1 ∧
      dval (ds ++ [(cv + x + y) % 32768]) + P15 (k + 1) * ((cv + x + y) / 32768) = dval (xs.take (k + 1)) + dval (ys.take (k + 1)) := by
  obtain ⟨h1, h2, h3⟩ := h
  refine ⟨by omega, h1.append (DigOk.one (by omega)), by rw [List.length_append, h2]; rfl, ?_⟩
  rw [dval_append, h2, dval_take_succ, dval_take_succ, ← hx, ← hy, P15_succ]
  have e : P15 k * dval [(cv + x + y) % 32768] + 32768 * P15 k * ((cv + x + y) / 32768) = P15 k * (cv + x + y) := by
    have : dval [(cv + x + y) % 32768] = (cv + x + y) % 32768 := by simp [dval]
    rw [this, Int.mul_comm 32768 (P15 k), Int.mul_assoc, ← Int.mul_add, Int.emod_add_mul_ediv]
  rw [Int.mul_add, Int.mul_add] at e
  omega

/-- some slice of digits comes back -/
def GivesDig (w : World) (n : Int) (L : Nat) (e : Ending) (w' : World) : Prop :=
  ∃ (ao : Option Addr) (b cap : Nat) (ds : List Int), e = .returned (.slice ao ds.length cap) ∧ Sl w' ao b cap ds ∧ DigOk ds ∧ dval ds = n ∧ ds.length = L ∧ Below w.heap.size w w'

set_option maxRecDepth 100000 in
set_option maxHeartbeats 4000000 in
theorem more_any (ao bo : Option Addr) (b b' cap cap' : Nat) (xs ys : List Int) (w : World) (ha : Sl w ao b cap xs) (hb : Sl w bo b' cap' ys) (hl1 : xs.length < 536870912) (hl2 : ys.length < 536870912) (da : DigOk xs) (db : DigOk ys) :
    Calls Tryd.prog 46 #[.slice ao xs.length cap, .slice bo ys.length cap'] w (GivesDig w (dval xs + dval ys) (max xs.length ys.length + 1)) := by
  obtain ⟨i0, hi, hz0, hz1, hz2⟩ := info_parts info_int
  have HA := Lib.hid ha
  have HB := Lib.hid hb
  have D := Lib.hid (And.intro da db)
  have la := hl1
  have lb := hl2
  clear ha hb da db hl1 hl2
  obtain ⟨N, hN⟩ : ∃ N, N = xs.length := ⟨_, rfl⟩
  obtain ⟨M, hM⟩ : ∃ M, M = ys.length := ⟨_, rfl⟩
  have HN := Lib.hid hN
  have HM := Lib.hid hM
  rw [← hN] at la ⊢
  rw [← hM] at lb ⊢
  clear hN hM
  go_enter Tryd.func46, Tryd.ntmps46
  go_wp2_with fail
  go_loopw [5, 6, 7] (fun out c i wr => ∃ (k : Nat) (cv : Int) (ds : List Int), (k ≤ N ∨ k ≤ M) ∧ i = .int .i64 k ∧ c = .int .i64 cv ∧ 0 ≤ cv ∧ cv ≤ 1 ∧ wr.ownsRow w.heap.size 3 1 out k (dg ds) ∧
      Hid (DigOk ds ∧ ds.length = k ∧ dval ds + P15 k * cv = dval (xs.take k) + dval (ys.take k)) ∧ Below w.heap.size w wr) (fun _ _ i _ => N + M - (intOf i).toNat)
  case atStart => exact ⟨0, 0, [], .inl (Nat.zero_le _), rfl, rfl, by decide, by decide, World.ownsRow_nil _ _ _ _, ⟨DigOk.nil, rfl, by simp [dval]⟩, Below.refl _ _⟩
  case round =>
    rename_i wr
    obtain ⟨k, cv, ds, hk, rfl, rfl, cv0, cv1, hown, hds, hbl⟩ := hrel
    by_cases h1 : k < N
    · by_cases h2 : k < M
      · have ja : k < xs.length := by rw [← HN.out]; exact h1
        obtain rfl := HA.out.ptr (by omega)
        have e0 : wr.cell? ⟨b, k, none⟩ = some (.int .i64 (xs.getD k 0)) := by rw [hbl.cell (p := ⟨b, k, none⟩) (HA.out.blk (by omega))]; exact HA.out.cell k ja
        clear ja
        have jb : k < ys.length := by rw [← HM.out]; exact h2
        obtain rfl := HB.out.ptr (by omega)
        have e1 : wr.cell? ⟨b', k, none⟩ = some (.int .i64 (ys.getD k 0)) := by rw [hbl.cell (p := ⟨b', k, none⟩) (HB.out.blk (by omega))]; exact HB.out.cell k jb
        clear jb
        obtain ⟨x0, x1⟩ := D.out.1.get k
        obtain ⟨y0, y1⟩ := D.out.2.get k
        obtain ⟨x, hx⟩ : ∃ x, x = xs.getD k 0 := ⟨_, rfl⟩
        obtain ⟨y, hy⟩ : ∃ y, y = ys.getD k 0 := ⟨_, rfl⟩
        rw [← hx] at x0 x1 e0
        rw [← hy] at y0 y1 e1
        have hst := more_step hx hy ⟨x0, x1⟩ ⟨y0, y1⟩ ⟨cv0, cv1⟩ hds.out
        have ST := Lib.hid hst
        have HX := Lib.hid hx
        have HY := Lib.hid hy
        clear hst hx hy hds
        go_wp2_with (at_builtin; refine wpList_append_own _ rfl _ _ 32 rfl w.heap.size 3 i0 (.int .i64 0) 1 8 Tryd.underlying32 hi hz0 hz1 hz2 rfl (by decide) _ _ _ rfl (hown.alloc _) ⟨wr.heap.size, 0, none⟩ 1 1 [.int .i64 ((cv + x + y) % 32768)] rfl rfl ?c1 ?c2 ?c3 ?c4 ?c5 ?_)
        case c1 =>
          intro j u hj
          match j, hj with
          | 0, hj => simp at hj; subst hj; simp [Addr.add]
        case c2 => intro u hu; simp at hu; subst hu; rfl
        case c3 => unfold maxLen; omega
        case c4 => omega
        case c5 => have := hbl.size; simp; omega
        intro v' w1 hown' hgrow _
        have hb1 : Below w.heap.size w w1 := (hbl.alloc hbl.size _).grown hgrow (by have := hbl.size; simp; omega) (fun k hk => (hown.lt k hk).1)
        rw [← dg_snoc] at hown'
        clear hown hbl hgrow
        go_wp2
        go_roundw
        case rel => exact ⟨k + 1, (cv + x + y) / 32768, _, by omega, by go_num, rfl, ST.out.1.1, ST.out.1.2, hown', ST.out.2, hb1⟩
        case measure => simp [intOf]; omega
      · have ja : k < xs.length := by rw [← HN.out]; exact h1
        obtain rfl := HA.out.ptr (by omega)
        have e0 : wr.cell? ⟨b, k, none⟩ = some (.int .i64 (xs.getD k 0)) := by rw [hbl.cell (p := ⟨b, k, none⟩) (HA.out.blk (by omega))]; exact HA.out.cell k ja
        clear ja
        obtain ⟨x0, x1⟩ := D.out.1.get k
        obtain ⟨y0, y1⟩ := D.out.2.get k
        obtain ⟨x, hx⟩ : ∃ x, x = xs.getD k 0 := ⟨_, rfl⟩
        obtain ⟨y, hy⟩ : ∃ y, y = ys.getD k 0 := ⟨_, rfl⟩
        rw [← hx] at x0 x1 e0
        rw [← hy] at y0 y1
        have hst := more_step hx hy ⟨x0, x1⟩ ⟨y0, y1⟩ ⟨cv0, cv1⟩ hds.out
        have hy0 : y = 0 := hy.trans (getD_out (by rw [← HM.out]; omega))
        subst hy0
        simp only [Int.add_zero] at hst
        have ST := Lib.hid hst
        have HX := Lib.hid hx
        have HY := Lib.hid hy
        clear hst hx hy hds
        go_wp2_with (at_builtin; refine wpList_append_own _ rfl _ _ 32 rfl w.heap.size 3 i0 (.int .i64 0) 1 8 Tryd.underlying32 hi hz0 hz1 hz2 rfl (by decide) _ _ _ rfl (hown.alloc _) ⟨wr.heap.size, 0, none⟩ 1 1 [.int .i64 ((cv + x) % 32768)] rfl rfl ?c1 ?c2 ?c3 ?c4 ?c5 ?_)
        case c1 =>
          intro j u hj
          match j, hj with
          | 0, hj => simp at hj; subst hj; simp [Addr.add]
        case c2 => intro u hu; simp at hu; subst hu; rfl
        case c3 => unfold maxLen; omega
        case c4 => omega
        case c5 => have := hbl.size; simp; omega
        intro v' w1 hown' hgrow _
        have hb1 : Below w.heap.size w w1 := (hbl.alloc hbl.size _).grown hgrow (by have := hbl.size; simp; omega) (fun k hk => (hown.lt k hk).1)
        rw [← dg_snoc] at hown'
        clear hown hbl hgrow
        go_wp2
        go_roundw
        case rel => exact ⟨k + 1, (cv + x) / 32768, _, by omega, by go_num, rfl, ST.out.1.1, ST.out.1.2, hown', ST.out.2, hb1⟩
        case measure => simp [intOf]; omega
    · by_cases h2 : k < M
      · have jb : k < ys.length := by rw [← HM.out]; exact h2
        obtain rfl := HB.out.ptr (by omega)
        have e1 : wr.cell? ⟨b', k, none⟩ = some (.int .i64 (ys.getD k 0)) := by rw [hbl.cell (p := ⟨b', k, none⟩) (HB.out.blk (by omega))]; exact HB.out.cell k jb
        clear jb
        obtain ⟨x0, x1⟩ := D.out.1.get k
        obtain ⟨y0, y1⟩ := D.out.2.get k
        obtain ⟨x, hx⟩ : ∃ x, x = xs.getD k 0 := ⟨_, rfl⟩
        obtain ⟨y, hy⟩ : ∃ y, y = ys.getD k 0 := ⟨_, rfl⟩
        rw [← hx] at x0 x1
        rw [← hy] at y0 y1 e1
        have hst := more_step hx hy ⟨x0, x1⟩ ⟨y0, y1⟩ ⟨cv0, cv1⟩ hds.out
        have hx0 : x = 0 := hx.trans (getD_out (by rw [← HN.out]; omega))
        subst hx0
        rw [Int.add_zero] at hst
        have ST := Lib.hid hst
        have HX := Lib.hid hx
        have HY := Lib.hid hy
        clear hst hx hy hds
        go_wp2_with (at_builtin; refine wpList_append_own _ rfl _ _ 32 rfl w.heap.size 3 i0 (.int .i64 0) 1 8 Tryd.underlying32 hi hz0 hz1 hz2 rfl (by decide) _ _ _ rfl (hown.alloc _) ⟨wr.heap.size, 0, none⟩ 1 1 [.int .i64 ((cv + y) % 32768)] rfl rfl ?c1 ?c2 ?c3 ?c4 ?c5 ?_)
        case c1 =>
          intro j u hj
          match j, hj with
          | 0, hj => simp at hj; subst hj; simp [Addr.add]
        case c2 => intro u hu; simp at hu; subst hu; rfl
        case c3 => unfold maxLen; omega
        case c4 => omega
        case c5 => have := hbl.size; simp; omega
        intro v' w1 hown' hgrow _
        have hb1 : Below w.heap.size w w1 := (hbl.alloc hbl.size _).grown hgrow (by have := hbl.size; simp; omega) (fun k hk => (hown.lt k hk).1)
        rw [← dg_snoc] at hown'
        clear hown hbl hgrow
        go_wp2
        go_roundw
        case rel => exact ⟨k + 1, (cv + y) / 32768, _, by omega, by go_num, rfl, ST.out.1.1, ST.out.1.2, hown', ST.out.2, hb1⟩
        case measure => simp [intOf]; omega
      · have ST := Lib.hid hds.out
        clear hds
        go_wp2_with (at_builtin; refine wpList_append_own _ rfl _ _ 32 rfl w.heap.size 3 i0 (.int .i64 0) 1 8 Tryd.underlying32 hi hz0 hz1 hz2 rfl (by decide) _ _ _ rfl (hown.alloc _) ⟨wr.heap.size, 0, none⟩ 1 1 [.int .i64 cv] rfl rfl ?c1 ?c2 ?c3 ?c4 ?c5 ?_)
        case c1 =>
          intro j u hj
          match j, hj with
          | 0, hj => simp at hj; subst hj; simp [Addr.add]
        case c2 => intro u hu; simp at hu; subst hu; rfl
        case c3 => unfold maxLen; omega
        case c4 => omega
        case c5 => have := hbl.size; simp; omega
        intro v' w1 hown' hgrow _
        have hb1 : Below w.heap.size w w1 := (hbl.alloc hbl.size _).grown hgrow (by have := hbl.size; simp; omega) (fun k hk => (hown.lt k hk).1)
        rw [← dg_snoc] at hown'
        clear hown hbl hgrow
        go_wp2
        go_ret
        obtain ⟨g1, g2, g3⟩ := ST.out
        have gl : (ds ++ [cv]).length = k + 1 := by rw [List.length_append, g2]; rfl
        obtain ⟨ao2, b2, cap2, hv, hsl⟩ := own_sl hown' gl (by omega)
        refine ⟨ao2, b2, cap2, ds ++ [cv], ?_, hsl, g1.append (DigOk.one ⟨cv0, by omega⟩), ?_, ?_, hb1⟩
        · rw [← hv]; rfl
        · rw [dval_append, g2]
          have : dval [cv] = cv := by simp [dval]
          rw [this, g3, List.take_of_length_le (by rw [← HN.out]; omega), List.take_of_length_le (by rw [← HM.out]; omega)]
        · rw [gl]; omega
end Go.Proofs.YtcfiemeknocgjaaDoor

namespace Go.Proofs.YtcfiemeknocgjaaDoor
open Go.RowKit

theorem one_new (w : World) (v : Value) (t : TypeId) : ∀ j u, [v][j]? = some u → (w.alloc (.cells #[v] t)).cell? ((⟨w.heap.size, 0, none⟩ : Addr).add j) = some u := by
  intro j u hj
  match j, hj with
  | 0, hj => simp at hj; subst hj; simp [Addr.add]
theorem one_cell (n : Int) : ∀ u ∈ [Value.int .i64 n], u.oneCell' = true := by intro u hu; simp at hu; subst hu; rfl

/-- one round of less -/
theorem less_step {xs ys ds : List Int} {k : Nat} {bw x y d c : Int} (hx : x = xs.getD k 0) (hy : y = ys.getD k 0) (hd : 0 ≤ d ∧ d < 32768) (hc : d - 32768 * c = x - bw - y)
    (h : DigOk ds ∧ ds.length = k ∧ dval ds - P15 k * bw = dval (xs.take k) - dval (ys.take k)) :
    DigOk (ds ++ [d]) ∧ (ds ++ [d]).length = k + 1 ∧ dval (ds ++ [d]) - P15 (k + 1) * c = dval (xs.take (k + 1)) - dval (ys.take (k + 1)) := by
  obtain ⟨h1, h2, h3⟩ := h
  refine ⟨h1.append (DigOk.one hd), by rw [List.length_append, h2]; rfl, ?_⟩
  rw [dval_append, h2, dval_take_succ, dval_take_succ, ← hx, ← hy, P15_succ]
  have e : P15 k * dval [d] - 32768 * P15 k * c = P15 k * (x - bw - y) := by
    have : dval [d] = d := by simp [dval]
    rw [this, ← hc, Int.mul_comm 32768 (P15 k), Int.mul_assoc, Int.mul_sub]
  rw [Int.mul_sub, Int.mul_sub] at e
  omega

set_option maxRecDepth 100000 in
set_option maxHeartbeats 4000000 in
theorem less_any (ao bo : Option Addr) (b b' cap cap' : Nat) (xs ys : List Int) (w : World) (ha : Sl w ao b cap xs) (hb : Sl w bo b' cap' ys) (hl1 : xs.length < 536870912) (da : DigOk xs) (db : DigOk ys) (hle : ys.length ≤ xs.length) (hge : dval ys ≤ dval xs) :
    Calls Tryd.prog 47 #[.slice ao xs.length cap, .slice bo ys.length cap'] w (GivesDig w (dval xs - dval ys) xs.length) := by
  obtain ⟨i0, hi, hz0, hz1, hz2⟩ := info_parts info_int
  have HA := Lib.hid ha
  have HB := Lib.hid hb
  have D := Lib.hid (And.intro da db)
  have G := Lib.hid hge
  have la := hl1
  clear ha hb da db hl1 hge
  obtain ⟨N, hN⟩ : ∃ N, N = xs.length := ⟨_, rfl⟩
  obtain ⟨M, hM⟩ : ∃ M, M = ys.length := ⟨_, rfl⟩
  have HN := Lib.hid hN
  have HM := Lib.hid hM
  rw [← hN] at la hle ⊢
  rw [← hM] at hle ⊢
  clear hN hM
  go_enter Tryd.func47, Tryd.ntmps47
  go_wp2_with fail
  go_loopw [5, 6, 7] (fun out c i wr => ∃ (k : Nat) (cv : Int) (ds : List Int), k ≤ N ∧ i = .int .i64 k ∧ c = .int .i64 cv ∧ 0 ≤ cv ∧ cv ≤ 1 ∧ wr.ownsRow w.heap.size 3 1 out k (dg ds) ∧
      Hid (DigOk ds ∧ ds.length = k ∧ dval ds - P15 k * cv = dval (xs.take k) - dval (ys.take k)) ∧ Below w.heap.size w wr) (fun _ _ i _ => N - (intOf i).toNat)
  case atStart => exact ⟨0, 0, [], Nat.zero_le _, rfl, rfl, by decide, by decide, World.ownsRow_nil _ _ _ _, ⟨DigOk.nil, rfl, by simp [dval]⟩, Below.refl _ _⟩
  case round =>
    rename_i wr
    obtain ⟨k, cv, ds, hk, rfl, rfl, cv0, cv1, hown, hds, hbl⟩ := hrel
    by_cases h1 : k < N
    · by_cases h2 : k < M
      · have ja : k < xs.length := by rw [← HN.out]; exact h1
        obtain rfl := HA.out.ptr (by omega)
        have e0 : wr.cell? ⟨b, k, none⟩ = some (.int .i64 (xs.getD k 0)) := by rw [hbl.cell (p := ⟨b, k, none⟩) (HA.out.blk (by omega))]; exact HA.out.cell k ja
        clear ja
        have jb : k < ys.length := by rw [← HM.out]; exact h2
        obtain rfl := HB.out.ptr (by omega)
        have e1 : wr.cell? ⟨b', k, none⟩ = some (.int .i64 (ys.getD k 0)) := by rw [hbl.cell (p := ⟨b', k, none⟩) (HB.out.blk (by omega))]; exact HB.out.cell k jb
        clear jb
        obtain ⟨x0, x1⟩ := D.out.1.get k
        obtain ⟨y0, y1⟩ := D.out.2.get k
        obtain ⟨x, hx⟩ : ∃ x, x = xs.getD k 0 := ⟨_, rfl⟩
        obtain ⟨y, hy⟩ : ∃ y, y = ys.getD k 0 := ⟨_, rfl⟩
        rw [← hx] at x0 x1 e0
        rw [← hy] at y0 y1 e1
        by_cases hneg : x - cv - y < 0
        · have hst := less_step (d := x - cv - y + 32768) (c := 1) hx hy (by omega) (by omega) hds.out
          have ST := Lib.hid hst
          have HX := Lib.hid hx
          have HY := Lib.hid hy
          clear hst hx hy hds
          go_wp2_with (at_builtin; refine wpList_append_own _ rfl _ _ 32 rfl w.heap.size 3 i0 (.int .i64 0) 1 8 Tryd.underlying32 hi hz0 hz1 hz2 rfl (by decide) _ _ _ rfl (hown.alloc _) ⟨wr.heap.size, 0, none⟩ 1 1 [.int .i64 (x - cv - y + 32768)] rfl rfl (one_new _ _ _) (one_cell _) (by unfold maxLen; omega) (by omega) (by have := hbl.size; simp; omega) ?_; intro v' w1 hown' hgrow _)
          have hb1 : Below w.heap.size w w1 := (hbl.alloc hbl.size _).grown hgrow (by have := hbl.size; simp; omega) (fun k hk => (hown.lt k hk).1)
          rw [← dg_snoc] at hown'
          clear hown hbl hgrow
          go_wp2
          go_roundw
          case rel => exact ⟨k + 1, 1, _, by omega, by go_num, rfl, by decide, by decide, hown', ST.out, hb1⟩
          case measure => simp [intOf]; omega
        · have hst := less_step (d := x - cv - y) (c := 0) hx hy (by omega) (by omega) hds.out
          have ST := Lib.hid hst
          have HX := Lib.hid hx
          have HY := Lib.hid hy
          clear hst hx hy hds
          go_wp2_with (at_builtin; refine wpList_append_own _ rfl _ _ 32 rfl w.heap.size 3 i0 (.int .i64 0) 1 8 Tryd.underlying32 hi hz0 hz1 hz2 rfl (by decide) _ _ _ rfl (hown.alloc _) ⟨wr.heap.size, 0, none⟩ 1 1 [.int .i64 (x - cv - y)] rfl rfl (one_new _ _ _) (one_cell _) (by unfold maxLen; omega) (by omega) (by have := hbl.size; simp; omega) ?_; intro v' w1 hown' hgrow _)
          have hb1 : Below w.heap.size w w1 := (hbl.alloc hbl.size _).grown hgrow (by have := hbl.size; simp; omega) (fun k hk => (hown.lt k hk).1)
          rw [← dg_snoc] at hown'
          clear hown hbl hgrow
          go_wp2
          go_roundw
          case rel => exact ⟨k + 1, 0, _, by omega, by go_num, rfl, by decide, by decide, hown', ST.out, hb1⟩
          case measure => simp [intOf]; omega
      · have ja : k < xs.length := by rw [← HN.out]; exact h1
        obtain rfl := HA.out.ptr (by omega)
        have e0 : wr.cell? ⟨b, k, none⟩ = some (.int .i64 (xs.getD k 0)) := by rw [hbl.cell (p := ⟨b, k, none⟩) (HA.out.blk (by omega))]; exact HA.out.cell k ja
        clear ja
        obtain ⟨x0, x1⟩ := D.out.1.get k
        obtain ⟨y0, y1⟩ := D.out.2.get k
        obtain ⟨x, hx⟩ : ∃ x, x = xs.getD k 0 := ⟨_, rfl⟩
        obtain ⟨y, hy⟩ : ∃ y, y = ys.getD k 0 := ⟨_, rfl⟩
        rw [← hx] at x0 x1 e0
        rw [← hy] at y0 y1
        have hy0 : y = 0 := hy.trans (getD_out (by rw [← HM.out]; omega))
        subst hy0
        by_cases hneg : x - cv < 0
        · have hst := less_step (d := x - cv + 32768) (c := 1) hx hy (by omega) (by omega) hds.out
          have ST := Lib.hid hst
          have HX := Lib.hid hx
          have HY := Lib.hid hy
          clear hst hx hy hds
          go_wp2_with (at_builtin; refine wpList_append_own _ rfl _ _ 32 rfl w.heap.size 3 i0 (.int .i64 0) 1 8 Tryd.underlying32 hi hz0 hz1 hz2 rfl (by decide) _ _ _ rfl (hown.alloc _) ⟨wr.heap.size, 0, none⟩ 1 1 [.int .i64 (x - cv + 32768)] rfl rfl (one_new _ _ _) (one_cell _) (by unfold maxLen; omega) (by omega) (by have := hbl.size; simp; omega) ?_; intro v' w1 hown' hgrow _)
          have hb1 : Below w.heap.size w w1 := (hbl.alloc hbl.size _).grown hgrow (by have := hbl.size; simp; omega) (fun k hk => (hown.lt k hk).1)
          rw [← dg_snoc] at hown'
          clear hown hbl hgrow
          go_wp2
          go_roundw
          case rel => exact ⟨k + 1, 1, _, by omega, by go_num, rfl, by decide, by decide, hown', ST.out, hb1⟩
          case measure => simp [intOf]; omega
        · have hst := less_step (d := x - cv) (c := 0) hx hy (by omega) (by omega) hds.out
          have ST := Lib.hid hst
          have HX := Lib.hid hx
          have HY := Lib.hid hy
          clear hst hx hy hds
          go_wp2_with (at_builtin; refine wpList_append_own _ rfl _ _ 32 rfl w.heap.size 3 i0 (.int .i64 0) 1 8 Tryd.underlying32 hi hz0 hz1 hz2 rfl (by decide) _ _ _ rfl (hown.alloc _) ⟨wr.heap.size, 0, none⟩ 1 1 [.int .i64 (x - cv)] rfl rfl (one_new _ _ _) (one_cell _) (by unfold maxLen; omega) (by omega) (by have := hbl.size; simp; omega) ?_; intro v' w1 hown' hgrow _)
          have hb1 : Below w.heap.size w w1 := (hbl.alloc hbl.size _).grown hgrow (by have := hbl.size; simp; omega) (fun k hk => (hown.lt k hk).1)
          rw [← dg_snoc] at hown'
          clear hown hbl hgrow
          go_wp2
          go_roundw
          case rel => exact ⟨k + 1, 0, _, by omega, by go_num, rfl, by decide, by decide, hown', ST.out, hb1⟩
          case measure => simp [intOf]; omega
    · have ST := Lib.hid hds.out
      clear hds
      go_wp2
      go_ret
      obtain ⟨g1, g2, g3⟩ := ST.out
      obtain ⟨ao2, b2, cap2, hv, hsl⟩ := own_sl hown g2 (by omega)
      have hkN : k = xs.length := by rw [← HN.out]; omega
      rw [List.take_of_length_le (by omega), List.take_of_length_le (by rw [← HM.out]; omega)] at g3
      have hbd := dval_bd g1
      rw [g2] at hbd
      have hge := G.out
      have hc : cv = 0 := by
        rcases (show cv = 0 ∨ cv = 1 by omega) with h | h
        · exact h
        · rw [h, Int.mul_one] at g3; omega
      rw [hc, Int.mul_zero, Int.sub_zero] at g3
      exact ⟨ao2, b2, cap2, ds, by rw [← hv]; rfl, hsl, g1, g3, by omega, hbl⟩
end Go.Proofs.YtcfiemeknocgjaaDoor

namespace Go.Proofs.YtcfiemeknocgjaaDoor
open Go.RowKit

theorem Big.shape {w : World} {v : Value} {n : Int} {L : Nat} (h : Big w v n L) : ∃ neg a l c, v = .agg #[.bool neg, .slice a l c] := by
  obtain ⟨neg, ao, b, cap, ds, h1, _⟩ := h
  exact ⟨neg, ao, ds.length, cap, h1⟩
theorem Sl.set2 {w : World} {ao : Option Addr} {b3 cap b : Nat} {ds : List Int} (h : Sl w ao b3 cap ds) {q : Bool} (hd : w.cell? ⟨b, 0, none⟩ = some (.bool q)) (x y : Value) :
    Sl ((w.setCell ⟨b, 0, none⟩ x).setCell ⟨b, 1, none⟩ y) ao b3 cap ds := by
  have hne : 0 < ds.length → b3 ≠ b := by
    intro h0 e
    have := h.cell 0 h0
    rw [e, hd] at this
    simp at this
  refine ⟨h.ptr, h.nil, h.capl, h.len, h.capb, fun i hi => ?_, fun h0 => ?_⟩
  · have hb := hne (by omega)
    have e : (((w.setCell ⟨b, 0, none⟩ x).setCell ⟨b, 1, none⟩ y).heap)[b3]? = w.heap[b3]? := by
      rw [Below.heap_setCell _ _ _ _ hb, Below.heap_setCell _ _ _ _ hb]
    rw [World.cell?_of_block (w := w) (a := ⟨b3, i, none⟩) e]
    exact h.cell i hi
  · rw [size_set, size_set]; exact h.blk h0
theorem Big.set2 {w : World} {v : Value} {n : Int} {L b : Nat} (h : Big w v n L) {q : Bool} (hd : w.cell? ⟨b, 0, none⟩ = some (.bool q)) (x y : Value) : Big ((w.setCell ⟨b, 0, none⟩ x).setCell ⟨b, 1, none⟩ y) v n L := by
  obtain ⟨neg, ao, b3, cap, ds, h1, h2, h3⟩ := h
  exact ⟨neg, ao, b3, cap, ds, h1, h2.set2 hd x y, h3⟩
theorem below_a1 (w : World) (o1 : Obj) : Below w.heap.size w (w.alloc o1) := (Below.refl _ _).alloc (Nat.le_refl _) _
theorem below_a2 (w : World) (o1 o2 : Obj) : Below w.heap.size w ((w.alloc o1).alloc o2) := (below_a1 w o1).alloc (by simp) _
theorem below_a3 (w : World) (o1 o2 o3 : Obj) : Below w.heap.size w (((w.alloc o1).alloc o2).alloc o3) := (below_a2 w o1 o2).alloc (by simp; omega) _
theorem set2_below {w W : World} {B b : Nat} (h : Below B W w) (hB : B ≤ b) (x y : Value) : Below B W ((w.setCell ⟨b, 0, none⟩ x).setCell ⟨b, 1, none⟩ y) := (h.setCell hB x).setCell hB y

set_option maxRecDepth 100000 in
set_option maxHeartbeats 600000 in
theorem bigAdd_same (neg : Bool) (ao bo : Option Addr) (b b' cap cap' : Nat) (xs ys : List Int) (w : World) (ha : Sl w ao b cap xs) (hb : Sl w bo b' cap' ys) (da : DigOk xs) (db : DigOk ys)
    (hl1 : xs.length < 268435456) (hl2 : ys.length < 268435456) :
    Calls Tryd.prog 23 #[.agg #[.bool neg, .slice ao xs.length cap], .agg #[.bool neg, .slice bo ys.length cap']] w
      (GivesBig w (bif neg then -(dval xs + dval ys) else dval xs + dval ys) (max xs.length ys.length + 1)) := by
  have HA := Lib.hid ha
  have HB := Lib.hid hb
  have D := Lib.hid (And.intro da db)
  have HL := Lib.hid (And.intro hl1 hl2)
  clear ha hb da db hl1 hl2
  go_enter Tryd.func23, Tryd.ntmps23
  go_wp2_with fail
  refine name_world ?_
  intro W hW
  have k0 : Blk W w.heap.size #[.bool neg, .slice ao xs.length cap] 34 := by rw [hW]; exact ((Blk.new _ _ _).alloc _).alloc _
  have k1 : Blk W (w.heap.size + 1) #[.bool neg, .slice bo ys.length cap'] 34 := by rw [hW]; exact (Blk.new1 _ _ _ _).alloc _
  have k2 : Blk W (w.heap.size + 1 + 1) #[.bool false, .slice none 0 0] 34 := by rw [hW]; exact Blk.new2 _ _ _ _ _
  have hb0 : Below w.heap.size w W := by rw [hW]; exact below_a3 _ _ _ _
  clear hW
  have c0 := k0.cell 0
  have c1 := k0.cell 1
  have d0 := k1.cell 0
  have d1 := k1.cell 1
  simp only [List.getElem?_toArray, List.getElem?_cons_zero, List.getElem?_cons_succ] at c0 c1 d0 d1
  have l0 := k0.lt
  have l1 := k1.lt
  have K2 := Lib.hid k2
  clear k0 k1 k2
  refine wp_region_up W.heap.size 7 [(true, 0), (true, 1), (true, 2), (true, 3), (true, 4), (true, 5), (false, 6)] (by kernel_rfl) (by kernel_rfl) (fun _ _ d _ _ h => by cases d <;> exact h) ?_
  have hb : Below W.heap.size W W.drew := (Below.refl _ _).drew
  iterate 6
    refine wpS_takeL rfl rfl ?_
    go_big_quiet_step (rfl)
    refine wpQuiet_nil ?_
  refine wpS_doL rfl ?_
  intro K hK
  go_wp2_with ((go_at_call 46; refine (more_any ao bo b b' cap cap' xs ys _ (HA.out.of (hb0.trans (hb.mono hb0.size))) (HB.out.of (hb0.trans (hb.mono hb0.size))) (by have := HL.out; omega) (by have := HL.out; omega) D.out.1 D.out.2).mono ?_; rintro e w2 ⟨ao2, b2, cap2, ds2, rfl, hsl2, hdg2, hv2, hl2, hn⟩; have SL := Lib.hid hsl2; have DG := Lib.hid hdg2; have HV := Lib.hid hv2; have HL2 := Lib.hid hl2; clear hsl2 hdg2 hv2 hl2))
  replace hb := hb.trans (hn.mono hb.size)
  refine hK.out _ _ (up_iff.2 hb) ?_
  clear hK K
  clear hn
  refine wpS_nil ?_
  simp only [List.drop_succ_cons, List.drop_zero]
  have hb1 : Below w.heap.size w w2 := hb0.trans (hb.mono hb0.size)
  have k2 : Blk w2 (w.heap.size + 1 + 1) #[.bool false, .slice none 0 0] 34 := K2.out.of hb
  clear c0 c1 d0 d1 l0 l1 K2 hb hb0
  go_wp2_with fail
  refine (trim_any neg ao2 b2 cap2 ds2 _ SL.out DG.out (max xs.length ys.length + 1) (by rw [HL2.out]; exact Nat.le_refl _)).mono ?_
  rintro e w3 ⟨v3, rfl, hbig, hn⟩
  rw [HV.out] at hbig
  have HBG := Lib.hid hbig
  have hvv := hbig.shape
  clear hbig
  obtain ⟨n3, a3, q3, c3, rfl⟩ := hvv
  replace k2 : Blk w3 _ _ _ := k2.of hn
  have d0 := k2.cell 0
  have d1 := k2.cell 1
  have f0 := k2.free 0
  have f1 := k2.free 1
  simp only [List.getElem?_toArray, List.getElem?_cons_zero, List.getElem?_cons_succ] at d0 d1
  have hb2 := hb1.trans (hn.mono hb1.size)
  clear hn k2 hb1
  go_wp2
  simp [bodyPost, results, Tryd.results23, go_sem, d0, d1]
  refine ⟨_, rfl, ?_, set2_below hb2 ?_ _ _⟩
  · have := HBG.out.set2 d0 (.bool n3) (.slice a3 q3 c3)
    exact this
  · omega
set_option maxRecDepth 100000 in
set_option maxHeartbeats 600000 in
theorem bigAdd_ge (neg : Bool) (ao bo : Option Addr) (b b' cap cap' : Nat) (xs ys : List Int) (w : World) (ha : Sl w ao b cap xs) (hb : Sl w bo b' cap' ys) (da : DigOk xs) (db : DigOk ys) (na : Norm xs) (nb : Norm ys) (hcmp : dval ys ≤ dval xs)
    (hl1 : xs.length < 268435456) (hl2 : ys.length < 268435456) :
    Calls Tryd.prog 23 #[.agg #[.bool neg, .slice ao xs.length cap], .agg #[.bool (!neg), .slice bo ys.length cap']] w
      (GivesBig w (bif neg then -(dval xs - dval ys) else dval xs - dval ys) xs.length) := by
  have HC := Lib.hid hcmp
  have NN := Lib.hid (And.intro na nb)
  have HA := Lib.hid ha
  have HB := Lib.hid hb
  have D := Lib.hid (And.intro da db)
  have HL := Lib.hid (And.intro hl1 hl2)
  have hle : ys.length ≤ xs.length := by
    rcases Nat.lt_or_ge xs.length ys.length with h | h
    · have := len_lt da db nb h; omega
    · exact h
  have HLE := Lib.hid hle
  clear hle
  clear ha hb da db hl1 hl2 hcmp na nb
  go_enter Tryd.func23, Tryd.ntmps23
  cases neg
  · go_wp2_with fail
    refine calls_w ?_
    intro W hW
    have k0 : Blk W w.heap.size #[.bool false, .slice ao xs.length cap] 34 := by rw [hW]; exact ((Blk.new _ _ _).alloc _).alloc _
    have k1 : Blk W (w.heap.size + 1) #[.bool true, .slice bo ys.length cap'] 34 := by rw [hW]; exact (Blk.new1 _ _ _ _).alloc _
    have k2 : Blk W (w.heap.size + 1 + 1) #[.bool false, .slice none 0 0] 34 := by rw [hW]; exact Blk.new2 _ _ _ _ _
    have hb0 : Below w.heap.size w W := by rw [hW]; exact below_a3 _ _ _ _
    clear hW
    refine (sizes_any ao bo b b' cap cap' xs ys _ (HA.out.of hb0) (HB.out.of hb0) D.out.1 D.out.2 NN.out.1 NN.out.2).mono ?_
    rintro e w1 ⟨rfl, hn⟩
    replace k0 : Blk w1 _ _ _ := k0.of hn
    replace k1 : Blk w1 _ _ _ := k1.of hn
    replace k2 : Blk w1 _ _ _ := k2.of hn
    replace hb0 := hb0.trans (hn.mono hb0.size)
    clear hn
    have c0 := k0.cell 0
    have c1 := k0.cell 1
    have d0 := k1.cell 0
    have d1 := k1.cell 1
    simp only [List.getElem?_toArray, List.getElem?_cons_zero, List.getElem?_cons_succ] at c0 c1 d0 d1
    have l0 := k0.lt
    have l1 := k1.lt
    have K2 := Lib.hid k2
    clear k0 k1 k2
    have hsg : decide (0 ≤ cmpI (dval xs) (dval ys)) = true := by
      have := HC.out
      rcases Int.lt_or_eq_of_le this with h | h
      · rw [cmpI_gt h]; rfl
      · rw [h, cmpI_eq]; rfl
    go_wp2_with fail
    refine name_world ?_
    intro W hW
    subst hW
    refine wp_region_up W.heap.size 7 [(true, 0), (true, 1), (true, 2), (true, 3), (true, 4), (true, 5), (false, 6)] (by kernel_rfl) (by kernel_rfl) (fun _ _ d _ _ h => by cases d <;> exact h) ?_
    have hb : Below W.heap.size W W.drew := (Below.refl _ _).drew
    iterate 6
      refine wpS_takeL rfl rfl ?_
      go_big_quiet_step (rfl)
      refine wpQuiet_nil ?_
    refine wpS_doL rfl ?_
    intro K hK
    go_wp2_with ((go_at_call 47; refine (less_any ao bo b b' cap cap' xs ys _ (HA.out.of (hb0.trans (hb.mono hb0.size))) (HB.out.of (hb0.trans (hb.mono hb0.size))) (by have := HL.out; omega) D.out.1 D.out.2 HLE.out HC.out).mono ?_; rintro e w2 ⟨ao2, b2, cap2, ds2, rfl, hsl2, hdg2, hv2, hl2, hn⟩; have SL := Lib.hid hsl2; have DG := Lib.hid hdg2; have HV := Lib.hid hv2; have HL2 := Lib.hid hl2; clear hsl2 hdg2 hv2 hl2))
    replace hb := hb.trans (hn.mono hb.size)
    refine hK.out _ _ (up_iff.2 hb) ?_
    clear hK K
    clear hn
    refine wpS_nil ?_
    simp only [List.drop_succ_cons, List.drop_zero]
    have hb1 : Below w.heap.size w w2 := hb0.trans (hb.mono hb0.size)
    have k2 : Blk w2 (w.heap.size + 1 + 1) #[.bool false, .slice none 0 0] 34 := K2.out.of hb
    clear c0 c1 d0 d1 l0 l1 K2 hb hb0
    go_wp2_with fail
    refine (trim_any _ ao2 b2 cap2 ds2 _ SL.out DG.out xs.length (by rw [HL2.out]; exact Nat.le_refl _)).mono ?_
    rintro e w3 ⟨v3, rfl, hbig, hn⟩
    rw [HV.out] at hbig
    have HBG := Lib.hid hbig
    have hvv := hbig.shape
    clear hbig
    obtain ⟨n3, a3, q3, c3, rfl⟩ := hvv
    replace k2 : Blk w3 _ _ _ := k2.of hn
    have d0 := k2.cell 0
    have d1 := k2.cell 1
    have f0 := k2.free 0
    have f1 := k2.free 1
    simp only [List.getElem?_toArray, List.getElem?_cons_zero, List.getElem?_cons_succ] at d0 d1
    have hb2 := hb1.trans (hn.mono hb1.size)
    clear hn k2 hb1
    go_wp2
    simp [bodyPost, results, Tryd.results23, go_sem, d0, d1]
    refine ⟨_, rfl, ?_, set2_below hb2 ?_ _ _⟩
    · have := HBG.out.set2 d0 (.bool n3) (.slice a3 q3 c3)
      exact this
    · omega
  · go_wp2_with fail
    refine calls_w ?_
    intro W hW
    have k0 : Blk W w.heap.size #[.bool true, .slice ao xs.length cap] 34 := by rw [hW]; exact ((Blk.new _ _ _).alloc _).alloc _
    have k1 : Blk W (w.heap.size + 1) #[.bool false, .slice bo ys.length cap'] 34 := by rw [hW]; exact (Blk.new1 _ _ _ _).alloc _
    have k2 : Blk W (w.heap.size + 1 + 1) #[.bool false, .slice none 0 0] 34 := by rw [hW]; exact Blk.new2 _ _ _ _ _
    have hb0 : Below w.heap.size w W := by rw [hW]; exact below_a3 _ _ _ _
    clear hW
    refine (sizes_any ao bo b b' cap cap' xs ys _ (HA.out.of hb0) (HB.out.of hb0) D.out.1 D.out.2 NN.out.1 NN.out.2).mono ?_
    rintro e w1 ⟨rfl, hn⟩
    replace k0 : Blk w1 _ _ _ := k0.of hn
    replace k1 : Blk w1 _ _ _ := k1.of hn
    replace k2 : Blk w1 _ _ _ := k2.of hn
    replace hb0 := hb0.trans (hn.mono hb0.size)
    clear hn
    have c0 := k0.cell 0
    have c1 := k0.cell 1
    have d0 := k1.cell 0
    have d1 := k1.cell 1
    simp only [List.getElem?_toArray, List.getElem?_cons_zero, List.getElem?_cons_succ] at c0 c1 d0 d1
    have l0 := k0.lt
    have l1 := k1.lt
    have K2 := Lib.hid k2
    clear k0 k1 k2
    have hsg : decide (0 ≤ cmpI (dval xs) (dval ys)) = true := by
      have := HC.out
      rcases Int.lt_or_eq_of_le this with h | h
      · rw [cmpI_gt h]; rfl
      · rw [h, cmpI_eq]; rfl
    go_wp2_with fail
    refine name_world ?_
    intro W hW
    subst hW
    refine wp_region_up W.heap.size 7 [(true, 0), (true, 1), (true, 2), (true, 3), (true, 4), (true, 5), (false, 6)] (by kernel_rfl) (by kernel_rfl) (fun _ _ d _ _ h => by cases d <;> exact h) ?_
    have hb : Below W.heap.size W W.drew := (Below.refl _ _).drew
    iterate 6
      refine wpS_takeL rfl rfl ?_
      go_big_quiet_step (rfl)
      refine wpQuiet_nil ?_
    refine wpS_doL rfl ?_
    intro K hK
    go_wp2_with ((go_at_call 47; refine (less_any ao bo b b' cap cap' xs ys _ (HA.out.of (hb0.trans (hb.mono hb0.size))) (HB.out.of (hb0.trans (hb.mono hb0.size))) (by have := HL.out; omega) D.out.1 D.out.2 HLE.out HC.out).mono ?_; rintro e w2 ⟨ao2, b2, cap2, ds2, rfl, hsl2, hdg2, hv2, hl2, hn⟩; have SL := Lib.hid hsl2; have DG := Lib.hid hdg2; have HV := Lib.hid hv2; have HL2 := Lib.hid hl2; clear hsl2 hdg2 hv2 hl2))
    replace hb := hb.trans (hn.mono hb.size)
    refine hK.out _ _ (up_iff.2 hb) ?_
    clear hK K
    clear hn
    refine wpS_nil ?_
    simp only [List.drop_succ_cons, List.drop_zero]
    have hb1 : Below w.heap.size w w2 := hb0.trans (hb.mono hb0.size)
    have k2 : Blk w2 (w.heap.size + 1 + 1) #[.bool false, .slice none 0 0] 34 := K2.out.of hb
    clear c0 c1 d0 d1 l0 l1 K2 hb hb0
    go_wp2_with fail
    refine (trim_any _ ao2 b2 cap2 ds2 _ SL.out DG.out xs.length (by rw [HL2.out]; exact Nat.le_refl _)).mono ?_
    rintro e w3 ⟨v3, rfl, hbig, hn⟩
    rw [HV.out] at hbig
    have HBG := Lib.hid hbig
    have hvv := hbig.shape
    clear hbig
    obtain ⟨n3, a3, q3, c3, rfl⟩ := hvv
    replace k2 : Blk w3 _ _ _ := k2.of hn
    have d0 := k2.cell 0
    have d1 := k2.cell 1
    have f0 := k2.free 0
    have f1 := k2.free 1
    simp only [List.getElem?_toArray, List.getElem?_cons_zero, List.getElem?_cons_succ] at d0 d1
    have hb2 := hb1.trans (hn.mono hb1.size)
    clear hn k2 hb1
    go_wp2
    simp [bodyPost, results, Tryd.results23, go_sem, d0, d1]
    refine ⟨_, rfl, ?_, set2_below hb2 ?_ _ _⟩
    · have := HBG.out.set2 d0 (.bool n3) (.slice a3 q3 c3)
      exact this
    · omega
set_option maxRecDepth 100000 in
set_option maxHeartbeats 600000 in
theorem bigAdd_lt (neg : Bool) (ao bo : Option Addr) (b b' cap cap' : Nat) (xs ys : List Int) (w : World) (ha : Sl w ao b cap xs) (hb : Sl w bo b' cap' ys) (da : DigOk xs) (db : DigOk ys) (na : Norm xs) (nb : Norm ys) (hcmp : dval xs < dval ys)
    (hl1 : xs.length < 268435456) (hl2 : ys.length < 268435456) :
    Calls Tryd.prog 23 #[.agg #[.bool neg, .slice ao xs.length cap], .agg #[.bool (!neg), .slice bo ys.length cap']] w
      (GivesBig w (bif !neg then -(dval ys - dval xs) else dval ys - dval xs) ys.length) := by
  have HC := Lib.hid hcmp
  have NN := Lib.hid (And.intro na nb)
  have HA := Lib.hid ha
  have HB := Lib.hid hb
  have D := Lib.hid (And.intro da db)
  have HL := Lib.hid (And.intro hl1 hl2)
  have hle : xs.length ≤ ys.length := by
    rcases Nat.lt_or_ge ys.length xs.length with h | h
    · have := len_lt db da na h; omega
    · exact h
  have HLE := Lib.hid hle
  clear hle
  clear ha hb da db hl1 hl2 hcmp na nb
  go_enter Tryd.func23, Tryd.ntmps23
  cases neg
  · go_wp2_with fail
    refine calls_w ?_
    intro W hW
    have k0 : Blk W w.heap.size #[.bool false, .slice ao xs.length cap] 34 := by rw [hW]; exact ((Blk.new _ _ _).alloc _).alloc _
    have k1 : Blk W (w.heap.size + 1) #[.bool true, .slice bo ys.length cap'] 34 := by rw [hW]; exact (Blk.new1 _ _ _ _).alloc _
    have k2 : Blk W (w.heap.size + 1 + 1) #[.bool false, .slice none 0 0] 34 := by rw [hW]; exact Blk.new2 _ _ _ _ _
    have hb0 : Below w.heap.size w W := by rw [hW]; exact below_a3 _ _ _ _
    clear hW
    refine (sizes_any ao bo b b' cap cap' xs ys _ (HA.out.of hb0) (HB.out.of hb0) D.out.1 D.out.2 NN.out.1 NN.out.2).mono ?_
    rintro e w1 ⟨rfl, hn⟩
    replace k0 : Blk w1 _ _ _ := k0.of hn
    replace k1 : Blk w1 _ _ _ := k1.of hn
    replace k2 : Blk w1 _ _ _ := k2.of hn
    replace hb0 := hb0.trans (hn.mono hb0.size)
    clear hn
    have c0 := k0.cell 0
    have c1 := k0.cell 1
    have d0 := k1.cell 0
    have d1 := k1.cell 1
    simp only [List.getElem?_toArray, List.getElem?_cons_zero, List.getElem?_cons_succ] at c0 c1 d0 d1
    have l0 := k0.lt
    have l1 := k1.lt
    have K2 := Lib.hid k2
    clear k0 k1 k2
    have hsg : decide (0 ≤ cmpI (dval xs) (dval ys)) = false := by
      have := HC.out
      rw [cmpI_lt this]; rfl
    go_wp2_with fail
    refine name_world ?_
    intro W hW
    subst hW
    refine wp_region_up W.heap.size 7 [(true, 0), (true, 1), (true, 2), (true, 3), (true, 4), (true, 5), (false, 6)] (by kernel_rfl) (by kernel_rfl) (fun _ _ d _ _ h => by cases d <;> exact h) ?_
    have hb : Below W.heap.size W W.drew := (Below.refl _ _).drew
    iterate 6
      refine wpS_takeL rfl rfl ?_
      go_big_quiet_step (rfl)
      refine wpQuiet_nil ?_
    refine wpS_doL rfl ?_
    intro K hK
    go_wp2_with ((go_at_call 47; refine (less_any bo ao b' b cap' cap ys xs _ (HB.out.of (hb0.trans (hb.mono hb0.size))) (HA.out.of (hb0.trans (hb.mono hb0.size))) (by have := HL.out; omega) D.out.2 D.out.1 HLE.out (Int.le_of_lt HC.out)).mono ?_; rintro e w2 ⟨ao2, b2, cap2, ds2, rfl, hsl2, hdg2, hv2, hl2, hn⟩; have SL := Lib.hid hsl2; have DG := Lib.hid hdg2; have HV := Lib.hid hv2; have HL2 := Lib.hid hl2; clear hsl2 hdg2 hv2 hl2))
    replace hb := hb.trans (hn.mono hb.size)
    refine hK.out _ _ (up_iff.2 hb) ?_
    clear hK K
    clear hn
    refine wpS_nil ?_
    simp only [List.drop_succ_cons, List.drop_zero]
    have hb1 : Below w.heap.size w w2 := hb0.trans (hb.mono hb0.size)
    have k2 : Blk w2 (w.heap.size + 1 + 1) #[.bool false, .slice none 0 0] 34 := K2.out.of hb
    clear c0 c1 d0 d1 l0 l1 K2 hb hb0
    go_wp2_with fail
    refine (trim_any _ ao2 b2 cap2 ds2 _ SL.out DG.out ys.length (by rw [HL2.out]; exact Nat.le_refl _)).mono ?_
    rintro e w3 ⟨v3, rfl, hbig, hn⟩
    rw [HV.out] at hbig
    have HBG := Lib.hid hbig
    have hvv := hbig.shape
    clear hbig
    obtain ⟨n3, a3, q3, c3, rfl⟩ := hvv
    replace k2 : Blk w3 _ _ _ := k2.of hn
    have d0 := k2.cell 0
    have d1 := k2.cell 1
    have f0 := k2.free 0
    have f1 := k2.free 1
    simp only [List.getElem?_toArray, List.getElem?_cons_zero, List.getElem?_cons_succ] at d0 d1
    have hb2 := hb1.trans (hn.mono hb1.size)
    clear hn k2 hb1
    go_wp2
    simp [bodyPost, results, Tryd.results23, go_sem, d0, d1]
    refine ⟨_, rfl, ?_, set2_below hb2 ?_ _ _⟩
    · have := HBG.out.set2 d0 (.bool n3) (.slice a3 q3 c3)
      exact this
    · omega
  · go_wp2_with fail
    refine calls_w ?_
    intro W hW
    have k0 : Blk W w.heap.size #[.bool true, .slice ao xs.length cap] 34 := by rw [hW]; exact ((Blk.new _ _ _).alloc _).alloc _
    have k1 : Blk W (w.heap.size + 1) #[.bool false, .slice bo ys.length cap'] 34 := by rw [hW]; exact (Blk.new1 _ _ _ _).alloc _
    have k2 : Blk W (w.heap.size + 1 + 1) #[.bool false, .slice none 0 0] 34 := by rw [hW]; exact Blk.new2 _ _ _ _ _
    have hb0 : Below w.heap.size w W := by rw [hW]; exact below_a3 _ _ _ _
    clear hW
    refine (sizes_any ao bo b b' cap cap' xs ys _ (HA.out.of hb0) (HB.out.of hb0) D.out.1 D.out.2 NN.out.1 NN.out.2).mono ?_
    rintro e w1 ⟨rfl, hn⟩
    replace k0 : Blk w1 _ _ _ := k0.of hn
    replace k1 : Blk w1 _ _ _ := k1.of hn
    replace k2 : Blk w1 _ _ _ := k2.of hn
    replace hb0 := hb0.trans (hn.mono hb0.size)
    clear hn
    have c0 := k0.cell 0
    have c1 := k0.cell 1
    have d0 := k1.cell 0
    have d1 := k1.cell 1
    simp only [List.getElem?_toArray, List.getElem?_cons_zero, List.getElem?_cons_succ] at c0 c1 d0 d1
    have l0 := k0.lt
    have l1 := k1.lt
    have K2 := Lib.hid k2
    clear k0 k1 k2
    have hsg : decide (0 ≤ cmpI (dval xs) (dval ys)) = false := by
      have := HC.out
      rw [cmpI_lt this]; rfl
    go_wp2_with fail
    refine name_world ?_
    intro W hW
    subst hW
    refine wp_region_up W.heap.size 7 [(true, 0), (true, 1), (true, 2), (true, 3), (true, 4), (true, 5), (false, 6)] (by kernel_rfl) (by kernel_rfl) (fun _ _ d _ _ h => by cases d <;> exact h) ?_
    have hb : Below W.heap.size W W.drew := (Below.refl _ _).drew
    iterate 6
      refine wpS_takeL rfl rfl ?_
      go_big_quiet_step (rfl)
      refine wpQuiet_nil ?_
    refine wpS_doL rfl ?_
    intro K hK
    go_wp2_with ((go_at_call 47; refine (less_any bo ao b' b cap' cap ys xs _ (HB.out.of (hb0.trans (hb.mono hb0.size))) (HA.out.of (hb0.trans (hb.mono hb0.size))) (by have := HL.out; omega) D.out.2 D.out.1 HLE.out (Int.le_of_lt HC.out)).mono ?_; rintro e w2 ⟨ao2, b2, cap2, ds2, rfl, hsl2, hdg2, hv2, hl2, hn⟩; have SL := Lib.hid hsl2; have DG := Lib.hid hdg2; have HV := Lib.hid hv2; have HL2 := Lib.hid hl2; clear hsl2 hdg2 hv2 hl2))
    replace hb := hb.trans (hn.mono hb.size)
    refine hK.out _ _ (up_iff.2 hb) ?_
    clear hK K
    clear hn
    refine wpS_nil ?_
    simp only [List.drop_succ_cons, List.drop_zero]
    have hb1 : Below w.heap.size w w2 := hb0.trans (hb.mono hb0.size)
    have k2 : Blk w2 (w.heap.size + 1 + 1) #[.bool false, .slice none 0 0] 34 := K2.out.of hb
    clear c0 c1 d0 d1 l0 l1 K2 hb hb0
    go_wp2_with fail
    refine (trim_any _ ao2 b2 cap2 ds2 _ SL.out DG.out ys.length (by rw [HL2.out]; exact Nat.le_refl _)).mono ?_
    rintro e w3 ⟨v3, rfl, hbig, hn⟩
    rw [HV.out] at hbig
    have HBG := Lib.hid hbig
    have hvv := hbig.shape
    clear hbig
    obtain ⟨n3, a3, q3, c3, rfl⟩ := hvv
    replace k2 : Blk w3 _ _ _ := k2.of hn
    have d0 := k2.cell 0
    have d1 := k2.cell 1
    have f0 := k2.free 0
    have f1 := k2.free 1
    simp only [List.getElem?_toArray, List.getElem?_cons_zero, List.getElem?_cons_succ] at d0 d1
    have hb2 := hb1.trans (hn.mono hb1.size)
    clear hn k2 hb1
    go_wp2
    simp [bodyPost, results, Tryd.results23, go_sem, d0, d1]
    refine ⟨_, rfl, ?_, set2_below hb2 ?_ _ _⟩
    · have := HBG.out.set2 d0 (.bool n3) (.slice a3 q3 c3)
      exact this
    · omega
end Go.Proofs.YtcfiemeknocgjaaDoor

namespace Go.Proofs.YtcfiemeknocgjaaDoor
open Go.RowKit
theorem GivesBig.mono {w : World} {n : Int} {L L' : Nat} (hl : L ≤ L') {e : Ending} {w' : World} (h : GivesBig w n L e w') : GivesBig w n L' e w' := by
  obtain ⟨v, h1, h2, h3⟩ := h
  exact ⟨v, h1, h2.mono hl, h3⟩
theorem bigAdd_any (v v' : Value) (n m : Int) (L : Nat) (w : World) (h : Big w v n L) (h' : Big w v' m L) (hL : L < 268435456) :
    Calls Tryd.prog 23 #[v, v'] w (GivesBig w (n + m) (L + 1)) := by
  obtain ⟨neg, ao, b, cap, ds, rfl, hs, hd, hn, hz, hv, hl⟩ := h
  obtain ⟨neg', ao', b', cap', ds', rfl, hs', hd', hn', hz', hv', hl'⟩ := h'
  by_cases hq : neg' = neg
  · subst hq
    refine (bigAdd_same neg' ao ao' b b' cap cap' ds ds' w hs hs' hd hd' (by omega) (by omega)).mono ?_
    intro e w2 hg
    have hx : n + m = (bif neg' then -(dval ds + dval ds') else dval ds + dval ds') := by
      rw [hv, hv']; cases neg' <;> simp <;> omega
    rw [hx]
    exact hg.mono (by omega)
  · have hq' : neg' = !neg := by cases neg <;> cases neg' <;> simp_all
    subst hq'
    by_cases hc : dval ds' ≤ dval ds
    · refine (bigAdd_ge neg ao ao' b b' cap cap' ds ds' w hs hs' hd hd' hn hn' hc (by omega) (by omega)).mono ?_
      intro e w2 hg
      have hx : n + m = (bif neg then -(dval ds - dval ds') else dval ds - dval ds') := by
        rw [hv, hv']; cases neg <;> simp <;> omega
      rw [hx]
      exact hg.mono (by omega)
    · refine (bigAdd_lt neg ao ao' b b' cap cap' ds ds' w hs hs' hd hd' hn hn' (by omega) (by omega) (by omega)).mono ?_
      intro e w2 hg
      have hx : n + m = (bif !neg then -(dval ds' - dval ds) else dval ds' - dval ds) := by
        rw [hv, hv']; cases neg <;> simp <;> omega
      rw [hx]
      exact hg.mono (by omega)
end Go.Proofs.YtcfiemeknocgjaaDoor

namespace Go.Proofs.YtcfiemeknocgjaaDoor
open Go.RowKit
set_option maxRecDepth 100000 in
set_option maxHeartbeats 600000 in
theorem bigSub_any (v v' : Value) (n m : Int) (L : Nat) (w : World) (h : Big w v n L) (h' : Big w v' m L) (hL : L < 268435456) :
    Calls Tryd.prog 40 #[v, v'] w (GivesBig w (n - m) (L + 1)) := by
  have hv := h.shape
  have hv' := h'.shape
  obtain ⟨n1, a1, q1, e1, rfl⟩ := hv
  obtain ⟨n2, a2, q2, e2, rfl⟩ := hv'
  have HA := Lib.hid h
  have HB := Lib.hid h'
  have HL := Lib.hid hL
  clear h h' hL
  go_enter Tryd.func40, Tryd.ntmps40
  go_wp2_with fail
  refine name_world ?_
  intro W hW
  have k0 : Blk W w.heap.size #[.bool n1, .slice a1 q1 e1] 34 := by rw [hW]; exact ((Blk.new _ _ _).alloc _).alloc _
  have k1 : Blk W (w.heap.size + 1) #[.bool n2, .slice a2 q2 e2] 34 := by rw [hW]; exact (Blk.new1 _ _ _ _).alloc _
  have k2 : Blk W (w.heap.size + 1 + 1) #[.bool false, .slice none 0 0] 34 := by rw [hW]; exact Blk.new2 _ _ _ _ _
  have hb0 : Below w.heap.size w W := by rw [hW]; exact below_a3 _ _ _ _
  clear hW
  have c0 := k0.cell 0
  have c1 := k0.cell 1
  have d0 := k1.cell 0
  have d1 := k1.cell 1
  simp only [List.getElem?_toArray, List.getElem?_cons_zero, List.getElem?_cons_succ] at c0 c1 d0 d1
  have l0 := k0.lt
  have l1 := k1.lt
  have K2 := Lib.hid k2
  clear k0 k1 k2
  refine wp_region_up W.heap.size 3 [(true, 0), (true, 1), (false, 2)] (by kernel_rfl) (by kernel_rfl) (fun _ _ d _ _ h => by cases d <;> exact h) ?_
  have hb : Below W.heap.size W W.drew := (Below.refl _ _).drew
  iterate 2
    refine wpS_takeL rfl rfl ?_
    go_big_quiet_step (rfl)
    refine wpQuiet_nil ?_
  refine wpS_doL rfl ?_
  intro K hK
  go_wp2_with ((go_at_call 18; refine (Minus_any _ m L _ (HB.out.of (hb0.trans (hb.mono hb0.size)))).mono ?_; rintro e w2 ⟨vm, rfl, hbm, hn⟩; have HM := Lib.hid hbm; have hvm := hbm.shape; clear hbm; obtain ⟨n3, a3, q3, e3, rfl⟩ := hvm))
  replace hb := hb.trans (hn.mono hb.size)
  refine hK.out _ _ (up_iff.2 hb) ?_
  clear hK K
  clear hn
  refine wpS_nil ?_
  simp only [List.drop_succ_cons, List.drop_zero]
  have hb1 : Below w.heap.size w w2 := hb0.trans (hb.mono hb0.size)
  have k2 : Blk w2 (w.heap.size + 1 + 1) #[.bool false, .slice none 0 0] 34 := K2.out.of hb
  clear c0 c1 d0 d1 l0 l1 K2 hb hb0
  go_wp2_with ((go_at_call 23; refine (bigAdd_any _ _ n (-m) L _ (HA.out.of hb1) HM.out HL.out).mono ?_; rintro e w3 ⟨v3, rfl, hbig, hn⟩; have HBG := Lib.hid hbig; have hvv := hbig.shape; clear hbig; obtain ⟨n4, a4, q4, e4, rfl⟩ := hvv; replace k2 : Blk w3 _ _ _ := k2.of hn; have d0 := k2.cell 0; have d1 := k2.cell 1; have f0 := k2.free 0; have f1 := k2.free 1; simp only [List.getElem?_toArray, List.getElem?_cons_zero, List.getElem?_cons_succ] at d0 d1; have hb2 := hb1.trans (hn.mono hb1.size); clear hn k2 hb1))
  simp [bodyPost, results, Tryd.results40, go_sem, d0, d1]
  refine ⟨_, rfl, ?_, set2_below hb2 ?_ _ _⟩
  · have := HBG.out.set2 d0 (.bool n4) (.slice a4 q4 e4)
    rw [show n + -m = n - m from by omega] at this
    exact this
  · omega
end Go.Proofs.YtcfiemeknocgjaaDoor

namespace Go.Proofs.YtcfiemeknocgjaaDoor
open Go.RowKit

/-- a slice of words that holds these -/
structure Ws (w : World) (b : Nat) (ws : List Int) : Prop where
  cell : ∀ i, i < ws.length → w.cell? ⟨b, i, none⟩ = some (.int .u64 (ws.getD i 0))
  blk : b < w.heap.size
  ok : WordsOk ws
  len : ws.length ≤ 4
theorem Ws.of {w w' : World} {b : Nat} {ws : List Int} (h : Ws w b ws) (hb : Below w.heap.size w w') : Ws w' b ws :=
  ⟨fun i hi => by rw [hb.cell (p := ⟨b, i, none⟩) h.blk]; exact h.cell i hi, Nat.lt_of_lt_of_le h.blk hb.size, h.ok, h.len⟩

theorem Blk.grown {w w' : World} {b : Nat} {c : Array Value} {t : TypeId} {row : Option Nat} (h : Blk w b c t) (hg : w.grownBy w' row) (hne : row ≠ some b) : Blk w' b c t := by
  have := hg.block b h.lt (fun e => hne e.symm)
  exact this.trans h
theorem ownsRow_drew {w : World} {base n size : Nat} {e : TypeId} {v : Value} {xs : List Value} (h : w.ownsRow base e size v n xs) : w.drew.ownsRow base e size v n xs := h
theorem words_get {ws : List Int} (h : WordsOk ws) (i : Nat) : Wd (ws.getD i 0) := by
  by_cases hi : i < ws.length
  · rw [getD_in' hi]; exact h _ (List.getElem_mem hi)
  · rw [getD_out (by omega)]; exact ⟨by decide, by decide⟩
theorem p2_le {i j : Nat} (h : i ≤ j) : (2 : Int) ^ i ≤ 2 ^ j := by
  have e : (2 : Int) ^ j = 2 ^ i * 2 ^ (j - i) := by rw [← Int.pow_add, show i + (j - i) = j by omega]
  have := p2_pos (j - i); have p := p2_pos i
  have : (2 : Int) ^ i * 1 ≤ 2 ^ i * 2 ^ (j - i) := Int.mul_le_mul_of_nonneg_left (by omega) (by omega)
  omega
theorem u64_p2 {i : Nat} (h : i < 64) : IntKind.u64.wrap (2 ^ i) = 2 ^ i := by
  have p := p2_pos i
  have e : (2 : Int) ^ 64 = 2 ^ i * 2 ^ (64 - i) := by rw [← Int.pow_add, show i + (64 - i) = 64 by omega]
  have q : (2 : Int) ^ i * 2 ≤ 2 ^ i * 2 ^ (64 - i) := by
    refine Int.mul_le_mul_of_nonneg_left ?_ (Int.le_of_lt p)
    have e2 : (2 : Int) ^ (64 - i) = 2 * 2 ^ (63 - i) := by rw [show 64 - i = (63 - i) + 1 by omega, Int.pow_succ, Int.mul_comm]
    have := p2_pos (63 - i)
    omega
  have e64 : (2 : Int) ^ 64 = 18446744073709551616 := rfl
  have hw : ∀ x : Int, 0 ≤ x → x < 18446744073709551616 → IntKind.u64.wrap x = x := fun x h0 h1 => by simp [IntKind.wrap, IntKind.signed, IntKind.bits]; omega
  exact hw _ (Int.le_of_lt p) (by omega)

set_option maxRecDepth 100000 in
set_option maxHeartbeats 1000000 in
theorem Words_any (b cap n : Nat) (ws : List Int) (w : World) (h : Ws w b ws) (hn : n = ws.length) :
    Calls Tryd.prog 39 #[.slice (some ⟨b, 0, none⟩) n cap] w (GivesBig w (uval ws) (64 * n / 15 + 1)) := by
  obtain ⟨i0, hi, hz0, hz1, hz2⟩ := info_parts info_int
  have HW := Lib.hid h
  have HN := Lib.hid hn
  have n4 : n ≤ 4 := hn ▸ h.len
  clear h hn
  go_enter Tryd.func39, Tryd.ntmps39
  go_wp2_with fail
  refine name_world ?_
  intro W hW
  have k0 : Blk W w.heap.size #[.bool false, .slice none 0 0] 34 := by rw [hW]; exact Blk.new _ _ _
  have hb0 : Below w.heap.size w W := by rw [hW]; exact below_a1 _ _
  clear hW
  go_loopw [3, 4, 5, 6] (fun out room many i wr => ∃ (k m L : Nat) (r : Int) (ds : List Int), k ≤ 64 * n ∧ i = .int .i64 k ∧ many = .int .i64 m ∧ m ≤ 14 ∧ room = .int .u64 r ∧ 0 ≤ r ∧ r < 32768 ∧ L ≤ 18 ∧ wr.ownsRow (w.heap.size + 1) 3 1 out L (dg ds) ∧
      Hid (ds.length = L ∧ Gat (uval ws) k m ds r) ∧ Blk wr w.heap.size #[.bool false, .slice none 0 0] 34 ∧ Below w.heap.size w wr) (fun _ _ _ i _ => 64 * n - (intOf i).toNat)
  case atStart => exact ⟨0, 0, 0, 0, [], Nat.zero_le _, rfl, rfl, by decide, rfl, by decide, by decide, by decide, World.ownsRow_nil _ _ _ _, ⟨rfl, Gat.zero _⟩, k0, hb0⟩
  case round =>
    clear k0 hb0
    rename_i wr
    obtain ⟨k, m, L, r, ds, hk, rfl, rfl, hm, rfl, r0, r1, hL, hown, hds, kr, hbl⟩ := hrel
    by_cases h1 : k < 64 * n
    · have e0 : wr.cell? ⟨b, k / 64, none⟩ = some (.int .u64 (ws.getD (k / 64) 0)) := by rw [hbl.cell (p := ⟨b, k / 64, none⟩) HW.out.blk]; exact HW.out.cell _ (by rw [← HN.out]; omega)
      obtain ⟨x, hx⟩ : ∃ x, x = ws.getD (k / 64) 0 := ⟨_, rfl⟩
      rw [← hx] at e0
      have HX := Lib.hid hx
      have KR := Lib.hid kr
      clear hx kr
      have l0 : b < wr.heap.size := Nat.lt_of_lt_of_le HW.out.blk hbl.size
      go_wp2_with fail
      refine name_world ?_
      intro W hW
      subst hW
      refine wp_region_up W.heap.size 11 [(true, 0), (true, 1), (true, 2), (true, 3), (true, 4), (true, 5), (true, 6), (true, 7), (true, 8), (true, 9), (true, 10)] (by kernel_rfl) (by kernel_rfl) (fun _ _ d _ _ h => by cases d <;> exact h) ?_
      iterate 8
        refine wpS_takeL rfl rfl ?_
        go_big_quiet_step (rfl)
        refine wpQuiet_nil ?_
      obtain ⟨p, hp⟩ : ∃ p : Int, p = IntKind.u64.wrap (2 ^ (k % 64)) := ⟨_, rfl⟩
      rw [← hp]
      have p0 : 0 < p := by rw [hp, u64_p2 (by omega)]; exact p2_pos _
      have HP := Lib.hid hp
      clear hp
      have hxw : Wd x := HX.out ▸ words_get HW.out.ok _
      have x0 := hxw.lo
      have x1 : x ≤ 18446744073709551615 := by have := hxw.hi; omega
      clear hxw
      refine wpS_takeL rfl rfl ?_
      go_big_quiet_step (rfl)
      refine wpQuiet_nil ?_
      obtain ⟨q, hq⟩ : ∃ q : Int, q = x / p := ⟨_, rfl⟩
      rw [← hq]
      have q0 : 0 ≤ q := by rw [hq]; exact Int.ediv_nonneg x0 (Int.le_of_lt p0)
      have q1 : q ≤ 18446744073709551615 := by rw [hq]; exact Int.le_trans (Int.ediv_le_self _ x0) x1
      have HQ := Lib.hid hq
      clear hq x0 x1
      refine wpS_takeL rfl rfl ?_
      go_big_quiet_step (rfl)
      refine wpQuiet_nil ?_
      obtain ⟨t, ht⟩ : ∃ t : Int, t = q % 2 := ⟨_, rfl⟩
      rw [← ht]
      have t0 : 0 ≤ t := by omega
      have t1 : t ≤ 1 := by omega
      have hbit : t = uval ws / 2 ^ k % 2 := by
        rw [ht, HQ.out, HP.out, HX.out, u64_p2 (by omega)]
        exact uval_bit HW.out.ok k
      have HB := Lib.hid hbit
      clear ht hbit q0 q1
      refine wpS_takeL rfl rfl ?_
      go_big_quiet_step (rfl)
      refine wpQuiet_nil ?_
      refine wpS_nil ?_
      simp only [List.drop_succ_cons, List.drop_zero]
      have hst := hds.out.2.bit HB.out
      have r2 : r + t * 2 ^ m < 2 ^ 15 := Int.lt_of_lt_of_le hst.2.2 (p2_le (by omega))
      obtain ⟨r3, hr3⟩ : ∃ r3 : Int, r3 = r + t * 2 ^ m := ⟨_, rfl⟩
      rw [← hr3] at hst r2
      have r30 := hst.2.1
      have r31 : r3 ≤ 32767 := by have : (2 : Int) ^ 15 = 32768 := rfl; omega
      obtain ⟨P, hP⟩ : ∃ P : Int, P = IntKind.u64.wrap (2 ^ m) := ⟨_, rfl⟩
      have hP' : P = 2 ^ m := hP.trans (u64_p2 (by omega))
      have hT : IntKind.u64.wrap (t * P) = r3 - r := by
        rw [show t * P = r3 - r by rw [hP', hr3]; omega]
        have := Int.mul_nonneg t0 (Int.le_of_lt (p2_pos m))
        exact IntWalk.u64_in _ (by omega)
      have hP2 : IntKind.u64.wrap (2 ^ m) = P := hP.symm
      have hR : r + (r3 - r) = r3 := by omega
      have R3 := Lib.hid hr3
      clear hst r2 hr3 hP' hP
      have h15 : ((m : Int) + 1 == 15) = true ∨ ((m : Int) + 1 == 15) = false := by cases ((m : Int) + 1 == 15) <;> simp
      clear e0 l0
      rcases h15 with h15 | h15
      · have m14 : m = 14 := by have := beq_iff_eq.1 h15; omega
        have hst := hds.out.2
        have hlen := hds.out.1
        rw [m14] at hst
        have R4 := R3.out
        rw [m14] at R4
        have ST := Lib.hid (hst.next HB.out)
        rw [← R4] at ST
        have HL := Lib.hid hlen
        have hL' : 15 * L ≤ 256 := by have := hst.pos; omega
        clear hst hlen R4 m14 hds
        go_wp2_with (at_builtin; refine wpList_append_own _ rfl _ _ 32 rfl (w.heap.size + 1) 3 i0 (.int .i64 0) 1 8 Tryd.underlying32 hi hz0 hz1 hz2 rfl (by decide) _ _ _ rfl ((ownsRow_drew hown).alloc _) ⟨W.heap.size, 0, none⟩ 1 1 [.int .i64 r3] rfl rfl (one_new W.drew _ _) (one_cell _) (by unfold maxLen; omega) (by omega) (by have := hbl.size; have := KR.out.lt; simp; omega) ?_; intro v' w1 hown' hgrow _)
        have hb1 : Below w.heap.size w w1 := (hbl.drew.alloc hbl.size _).grown hgrow (by have := hbl.size; simp; omega) (fun k hk => Nat.le_of_succ_le (hown.lt k hk).1)
        have k1 : Blk w1 w.heap.size #[.bool false, .slice none 0 0] 34 := (KR.out.drew.alloc _).grown hgrow (fun h => Nat.lt_irrefl _ (hown.lt _ h).1)
        rw [← dg_snoc] at hown'
        clear hown hbl hgrow
        go_wp2
        go_roundw
        case rel => exact ⟨k + 1, 0, L + 1, 0, _, by omega, by go_num, rfl, by decide, rfl, by decide, by decide, by omega, hown', ⟨by rw [List.length_append, HL.out]; rfl, ST.out⟩, k1, hb1⟩
        case measure => simp [intOf]; omega
      · have m13 : m + 1 ≤ 14 := by have := beq_eq_false_iff_ne.1 h15; omega
        have ST := Lib.hid (hds.out.2.on HB.out)
        rw [← R3.out] at ST
        have HL := Lib.hid hds.out.1
        have k1 : Blk W.drew w.heap.size #[.bool false, .slice none 0 0] 34 := KR.out.drew
        have K1 := Lib.hid k1
        clear hds k1
        go_wp2
        go_roundw
        case rel => exact ⟨k + 1, m + 1, L, r3, ds, by omega, by go_num, by go_num, by omega, rfl, by omega, by omega, hL, ownsRow_drew hown, ⟨HL.out, ST.out⟩, K1.out, hbl.drew⟩
        case measure => simp [intOf]; omega
    · have hk' : k = 64 * n := by omega
      have HK := Lib.hid hk'
      have KR := Lib.hid kr
      have hL' : 15 * L ≤ 256 := by have := hds.out.2.pos; have := hds.out.1; omega
      have gl : (ds ++ [r]).length = L + 1 := by rw [List.length_append, hds.out.1]; rfl
      have fin := hds.out.2.done hm (uval_bd HW.out.ok).1 (by rw [HK.out, HN.out]; exact (uval_bd HW.out.ok).2)
      have HP := Lib.hid (show (ds ++ [r]).length ≤ 64 * n / 15 + 1 by have := HK.out; have := hds.out.2.pos; have := hds.out.1; omega)
      have FIN := Lib.hid fin
      have GL := Lib.hid gl
      clear hk' kr hds gl fin
      go_wp2_with (at_builtin; refine wpList_append_own _ rfl _ _ 32 rfl (w.heap.size + 1) 3 i0 (.int .i64 0) 1 8 Tryd.underlying32 hi hz0 hz1 hz2 rfl (by decide) _ _ _ rfl (hown.alloc _) ⟨wr.heap.size, 0, none⟩ 1 1 [.int .i64 r] rfl rfl (one_new _ _ _) (one_cell _) (by unfold maxLen; omega) (by omega) (by have := hbl.size; have := KR.out.lt; simp; omega) ?_; intro v' w1 hown' hgrow _; rw [← dg_snoc] at hown'; obtain ⟨ao2, b2, cap2, hv, hsl⟩ := own_sl hown' GL.out (by omega); subst hv; rw [GL.out]; have hb1 : Below w.heap.size w w1 := (hbl.alloc hbl.size _).grown hgrow (by have := hbl.size; simp; omega) (fun k hk => Nat.le_of_succ_le (hown.lt k hk).1); have k1 : Blk w1 w.heap.size #[.bool false, .slice none 0 0] 34 := (KR.out.alloc _).grown hgrow (fun h => Nat.lt_irrefl _ (hown.lt _ h).1); have SL := Lib.hid hsl; have K1 := Lib.hid k1; clear hown hown' hbl hgrow hsl k1 KR)
      have T := trim_any false ao2 b2 cap2 (ds ++ [r]) w1 SL.out FIN.out.1 (64 * n / 15 + 1) HP.out
      rw [GL.out, FIN.out.2] at T
      refine T.mono ?_
      clear T
      rintro e w3 ⟨v3, rfl, hbig, hn⟩
      have HBG := Lib.hid hbig
      have hvv := hbig.shape
      clear hbig
      obtain ⟨n3, a3, q3, c3, rfl⟩ := hvv
      have k2 : Blk w3 _ _ _ := K1.out.of hn
      have d0 := k2.cell 0
      have d1 := k2.cell 1
      have f0 := k2.free 0
      have f1 := k2.free 1
      simp only [List.getElem?_toArray, List.getElem?_cons_zero, List.getElem?_cons_succ] at d0 d1
      have hb2 := hb1.trans (hn.mono hb1.size)
      clear hn k2 hb1
      go_wp2
      simp [bodyPost, results, Tryd.results39, go_sem, d0, d1]
      refine ⟨_, rfl, ?_, set2_below hb2 (Nat.le_refl _) _ _⟩
      exact HBG.out.set2 d0 (.bool n3) (.slice a3 q3 c3)
end Go.Proofs.YtcfiemeknocgjaaDoor

namespace Go.Proofs.YtcfiemeknocgjaaDoor
open Go.RowKit

/-- a number that is not too great has not too many digits -/
theorem Big.fit {w : World} {v : Value} {n : Int} {L k : Nat} (h : Big w v n L) (hk : -P15 k < n ∧ n < P15 k) : Big w v n k := by
  obtain ⟨neg, ao, b, cap, ds, h1, h2, h3, h4, h5, h6, h7⟩ := h
  refine ⟨neg, ao, b, cap, ds, h1, h2, h3, h4, h5, h6, norm_len h3 h4 ?_⟩
  cases neg <;> simp at h6 <;> omega
theorem GivesBig.fit {w : World} {n : Int} {L k : Nat} {e : Ending} {w' : World} (h : GivesBig w n L e w') (hk : -P15 k < n ∧ n < P15 k) : GivesBig w n k e w' := by
  obtain ⟨v, h1, h2, h3⟩ := h
  exact ⟨v, h1, h2.fit hk, h3⟩
theorem p2_15 (k : Nat) : (2 : Int) ^ k < P15 (k / 15 + 1) := by
  rw [P15_two]
  have h1 : (2 : Int) ^ k * 2 = 2 ^ (k + 1) := (Int.pow_succ ..).symm
  have h2 := p2_le (show k + 1 ≤ 15 * (k / 15 + 1) by omega)
  have := p2_pos k
  omega
theorem big_one (w : World) : Big (w.alloc (.cells #[.int .i64 1] 3)) (.agg #[.bool false, .slice (some ⟨w.heap.size, 0, none⟩) 1 1]) 1 1 := by
  have hb := Blk.new w #[.int .i64 1] 3
  refine ⟨false, some ⟨w.heap.size, 0, none⟩, w.heap.size, 1, [1], rfl, ⟨fun _ => rfl, fun h => (by cases h), by decide, by decide, by decide, fun i hi => ?_, fun _ => hb.lt⟩, ?_, .inr ?_, fun h => (by cases h), rfl, by decide⟩
  · have : i = 0 := by simp at hi; exact hi
    subst this
    rw [hb.cell]; rfl
  · exact DigOk.one (by decide)
  · decide

set_option maxRecDepth 100000 in
set_option maxHeartbeats 1000000 in
theorem Power_any (n : Nat) (w : World) (hn : n ≤ 256) :
    Calls Tryd.prog 21 #[.int .i64 n] w (GivesBig w (2 ^ n) (n / 15 + 1)) := by
  go_enter Tryd.func21, Tryd.ntmps21
  go_wp2_with fail
  refine name_world ?_
  intro W hW
  have k0 : Blk W w.heap.size #[.bool false, .slice none 0 0] 34 := by rw [hW]; exact ((Blk.new _ _ _).alloc _).alloc _
  have k1 : Blk W (w.heap.size + 1 + 1) #[.bool false, .slice (some ⟨w.heap.size + 1, 0, none⟩) 1 1] 34 := by rw [hW]; exact Blk.new2 _ _ _ _ _
  have hbg : Big W (.agg #[.bool false, .slice (some ⟨w.heap.size + 1, 0, none⟩) 1 1]) 1 1 := by
    rw [hW]
    have := (big_one (w.alloc (.cells #[.bool false, .slice none 0 0] 34))).of (((Below.refl _ _).alloc (Nat.le_refl _) (.cells #[.bool false, .slice (some ⟨w.heap.size + 1, 0, none⟩) 1 1] 34)))
    simpa using this
  have hb0 : Below w.heap.size w W := by rw [hW]; exact below_a3 _ _ _ _
  clear hW
  go_loopw [4] (fun i wr => ∃ (k : Nat) (neg : Bool) (a : Option Addr) (l c : Nat), k ≤ n ∧ i = .int .i64 k ∧ Blk wr w.heap.size #[.bool false, .slice none 0 0] 34 ∧ Blk wr (w.heap.size + 1 + 1) #[.bool neg, .slice a l c] 34 ∧
      Hid (Big wr (.agg #[.bool neg, .slice a l c]) (2 ^ k) (k / 15 + 1)) ∧ Below w.heap.size w wr) (fun i _ => n - (intOf i).toNat)
  case atStart => exact ⟨0, false, _, 1, 1, Nat.zero_le _, rfl, k0, k1, hbg, hb0⟩
  case round =>
    clear k0 k1 hbg hb0
    rename_i wr
    obtain ⟨k, neg, a, l, c, hk, rfl, k0, k1, hbg, hbl⟩ := hrel
    have c0 := k1.cell 0
    have c1 := k1.cell 1
    have f0 := k1.free 0
    have f1 := k1.free 1
    simp only [List.getElem?_toArray, List.getElem?_cons_zero, List.getElem?_cons_succ] at c0 c1
    by_cases h1 : k < n
    · have K0 := Lib.hid k0
      have K1 := Lib.hid k1
      clear k0 k1 f0 f1
      go_wp2_with fail
      refine (bigAdd_any _ _ (2 ^ k) (2 ^ k) (k / 15 + 1) _ hbg.out hbg.out (by omega)).mono ?_
      rintro e w3 ⟨v3, rfl, hbig, hn⟩
      have e2 : (2 : Int) ^ k + 2 ^ k = 2 ^ (k + 1) := by rw [Int.pow_succ]; omega
      rw [e2] at hbig
      have hf := hbig.fit (k := (k + 1) / 15 + 1) ⟨by have := p2_15 (k + 1); have := p2_pos (k + 1); omega, p2_15 (k + 1)⟩
      have HBG := Lib.hid hf
      have hvv := hbig.shape
      clear hbig hf e2 c0 c1
      obtain ⟨n3, a3, q3, c3, rfl⟩ := hvv
      have k0 := K0.out.of hn
      have k1 := K1.out.of hn
      have d0 := k1.cell 0
      have d1 := k1.cell 1
      have f0 := k1.free 0
      have f1 := k1.free 1
      simp only [List.getElem?_toArray, List.getElem?_cons_zero, List.getElem?_cons_succ] at d0 d1
      have hb2 := hbl.trans (hn.mono hbl.size)
      have K0' := Lib.hid k0
      have K1' := Lib.hid k1
      clear hn k0 k1 K0 K1 hbl hbg
      go_wp2
      go_roundw
      case rel =>
        refine ⟨k + 1, n3, a3, q3, c3, by omega, by go_num, (K0'.out.set (by omega) _ _ _).set (by omega) _ _ _, ?_, HBG.out.set2 d0 (.bool n3) (.slice a3 q3 c3), set2_below hb2 (by omega) _ _⟩
        exact (Blk.put K1'.out 0 _).put 1 _
      case measure => simp [intOf]; omega
    · have hk' : k = n := by omega
      subst hk'
      have d0 := k0.cell 0
      have d1 := k0.cell 1
      have f2 := k0.free 0
      have f3 := k0.free 1
      simp only [List.getElem?_toArray, List.getElem?_cons_zero, List.getElem?_cons_succ] at d0 d1
      clear k0 k1
      go_wp2
      simp [bodyPost, results, Tryd.results21, go_sem, d0, d1]
      exact ⟨_, rfl, hbg.out.set2 d0 (.bool neg) (.slice a l c), set2_below hbl (Nat.le_refl _) _ _⟩
end Go.Proofs.YtcfiemeknocgjaaDoor

namespace Go.Proofs.YtcfiemeknocgjaaDoor
open Go.RowKit

theorem uval_wd (x : Int) : uval [wd0 x, wd1 x, wd2 x, wd3 x] = x % b256 := by
  rw [← un4_wd]
  simp only [uval, un4, b64, b128, b192]; omega
theorem ws_wd (x : Int) : WordsOk [wd0 x, wd1 x, wd2 x, wd3 x] := by
  intro d hd
  simp only [List.mem_cons, List.not_mem_nil, or_false] at hd
  rcases hd with rfl | rfl | rfl | rfl
  · exact wd0_Wd x
  · exact wd1_Wd x
  · exact wd2_Wd x
  · exact wd3_Wd x
theorem sg_neg {x : Int} (h : ng x = true) : x % b256 - b256 = sg x := by
  rw [ng_iff] at h; unfold sg; unfold b255 b256 at *; omega
theorem sg_pos {x : Int} (h : ng x = false) : x % b256 = sg x := by
  have h' : ¬ ng x = true := by rw [h]; exact Bool.false_ne_true
  rw [ng_iff] at h'; unfold sg; unfold b255 b256 at *; omega
theorem ng_ge (x : Int) : decide (9223372036854775808 ≤ wd3 x) = ng x := by
  unfold ng
  have := wd3_Wd x
  obtain ⟨h1, h2⟩ := this
  rw [Bool.eq_iff_iff, decide_eq_true_iff, bne_iff_ne]; omega
theorem p18 : (115792089237316195423570985008687907853269984665640564039457584007913129639936 : Int) < P15 18 := by
  have : P15 18 = 32768 ^ 18 := rfl
  rw [this]; decide
theorem p256 : (2 : Int) ^ 256 = b256 := by decide
theorem sg_p18 (x : Int) : -P15 18 < sg x ∧ sg x < P15 18 := by
  have := sg_bd x; have := p18; unfold b255 at *; omega

theorem ws_new (w : World) (x : Int) : Ws (w.alloc (.cells #[.int .u64 (wd0 x), .int .u64 (wd1 x), .int .u64 (wd2 x), .int .u64 (wd3 x)] 22)) w.heap.size [wd0 x, wd1 x, wd2 x, wd3 x] := by
  have hb := Blk.new w #[.int .u64 (wd0 x), .int .u64 (wd1 x), .int .u64 (wd2 x), .int .u64 (wd3 x)] 22
  refine ⟨fun i hi => ?_, hb.lt, ws_wd x, Nat.le_refl 4⟩
  rw [hb.cell]
  match i, hi with
  | 0, _ => rfl
  | 1, _ => rfl
  | 2, _ => rfl
  | 3, _ => rfl

set_option maxRecDepth 100000 in
set_option maxHeartbeats 1000000 in
theorem Read_b (x : Int) (s : Bool) (w : World) (hx : ng x = s) :
    Calls Tryd.prog 16 #[wI x] w (GivesBig w (sg x) 18) := by
  have HX := Lib.hid hx
  have hge : decide (9223372036854775808 ≤ wd3 x) = s := (ng_ge x).trans hx
  clear hx
  go_enter Tryd.func16, Tryd.ntmps16
  go_wp2_with fail
  refine calls_w ?_
  intro W hW
  have kx : Blk W w.heap.size (wC x) 23 := by rw [hW]; exact ((Blk.new _ _ _).alloc _).alloc _
  have k0 : Blk W (w.heap.size + 1) #[.bool false, .slice none 0 0] 34 := by rw [hW]; exact (Blk.new1 _ _ _ _).alloc _
  have hws : Ws W (w.heap.size + 1 + 1) [wd0 x, wd1 x, wd2 x, wd3 x] := by
    rw [hW]
    have := ws_new ((w.alloc (.cells #[.int .u64 (wd0 x), .int .u64 (wd1 x), .int .u64 (wd2 x), .int .u64 (wd3 x)] 23)).alloc (.cells #[.bool false, .slice none 0 0] 34)) x
    simpa using this
  have hb0 : Below w.heap.size w W := by rw [hW]; exact below_a3 _ _ _ _
  clear hW
  have T := Words_any (w.heap.size + 1 + 1) 4 4 _ W hws rfl
  rw [uval_wd] at T
  refine T.mono ?_
  clear T hws
  rintro e w2 ⟨v2, rfl, hbig, hn⟩
  have hf := hbig.fit (k := 18) ⟨by have := p18; unfold b256; omega, by have := p18; unfold b256; omega⟩
  have HBG := Lib.hid hf
  have hvv := hbig.shape
  clear hbig hf
  obtain ⟨n3, a3, q3, c3, rfl⟩ := hvv
  have kx2 : Blk w2 w.heap.size (wC x) 23 := kx.of hn
  have k2 := k0.of hn
  have hb2 := hb0.trans (hn.mono hb0.size)
  have cx : w2.cell? ⟨w.heap.size, 3, none⟩ = some (.int .u64 (wd3 x)) := kx2.cell 3
  have lx := Blk.lt kx2
  have d0 := k2.cell 0
  have d1 := k2.cell 1
  have f0 := k2.free 0
  have f1 := k2.free 1
  simp only [List.getElem?_toArray, List.getElem?_cons_zero, List.getElem?_cons_succ] at d0 d1
  have l2 := k2.lt
  have K2 := Lib.hid k2
  clear hn kx k0 k2 hb0 kx2
  cases s
  · go_wp2
    simp [bodyPost, results, Tryd.results16, go_sem, d0, d1, l2]
    refine ⟨_, rfl, ?_, (set2_below hb2 (Nat.le_succ _) _ _).alloc (by rw [size_set, size_set]; exact hb2.size) _⟩
    rw [← sg_pos HX.out]
    exact (HBG.out.set2 d0 (.bool n3) (.slice a3 q3 c3)).of ((Below.refl _ _).alloc (Nat.le_refl _) _)
  · clear d0 d1 f0 f1
    go_wp2_with fail
    refine name_world ?_
    intro W3 hW3
    have kb : Blk W3 w2.heap.size #[.bool n3, .slice a3 q3 c3] 34 := by rw [hW3]; exact Blk.new _ _ _
    have h23 : Below w2.heap.size w2 W3 := by rw [hW3]; exact below_a1 _ _
    clear hW3
    have d0 := kb.cell 0
    have d1 := kb.cell 1
    simp only [List.getElem?_toArray, List.getElem?_cons_zero, List.getElem?_cons_succ] at d0 d1
    have l1 := kb.lt
    have hb3 := hb2.trans (h23.mono hb2.size)
    have HB1 := Lib.hid (HBG.out.of h23)
    have K3 := Lib.hid (K2.out.of h23)
    clear cx lx hge kb l2 K2 h23 HBG hb2
    obtain ⟨W, rfl⟩ : ∃ W, W = W3 := ⟨_, rfl⟩
    refine wp_region_up W.heap.size 2 [(true, 0), (false, 1)] (by kernel_rfl) (by kernel_rfl) (fun _ _ d _ _ h => by cases d <;> exact h) ?_
    have hb : Below W.heap.size W W.drew := (Below.refl _ _).drew
    refine wpS_takeL rfl rfl ?_
    go_big_quiet_step (rfl)
    refine wpQuiet_nil ?_
    refine wpS_doL rfl ?_
    intro K hK
    go_wp2_with ((go_at_call 21; refine (Power_any 256 _ (Nat.le_refl _)).mono ?_; rintro e w4 ⟨vm, rfl, hbm, hn⟩; have HM := Lib.hid hbm; have hvm := hbm.shape; clear hbm; obtain ⟨n4, a4, q4, e4, rfl⟩ := hvm))
    replace hb := hb.trans (hn.mono hb.size)
    refine hK.out _ _ (up_iff.2 hb) ?_
    clear hK K
    clear hn
    refine wpS_nil ?_
    simp only [List.drop_succ_cons, List.drop_zero]
    have hb4 : Below w.heap.size w w4 := hb3.trans (hb.mono hb3.size)
    have k4 := K3.out.of hb
    have HB2 := Lib.hid (HB1.out.of hb)
    clear d0 d1 l1 K3 hb hb3 HB1
    go_wp2_with fail
    refine (bigSub_any _ _ (x % b256) (2 ^ 256) 18 _ HB2.out HM.out (by decide)).mono ?_
    rintro e w5 ⟨v5, rfl, hbig, hn⟩
    rw [p256, sg_neg HX.out] at hbig
    have hf := hbig.fit (k := 18) (sg_p18 x)
    have HBG := Lib.hid hf
    have hvv := hbig.shape
    clear hbig hf
    obtain ⟨n5, a5, q5, c5, rfl⟩ := hvv
    have k5 := k4.of hn
    have d0 := k5.cell 0
    have d1 := k5.cell 1
    have f0 := k5.free 0
    have f1 := k5.free 1
    simp only [List.getElem?_toArray, List.getElem?_cons_zero, List.getElem?_cons_succ] at d0 d1
    have hb5 := hb4.trans (hn.mono hb4.size)
    clear hn k4 k5 hb4 HB2 HM
    go_wp2
    simp [bodyPost, results, Tryd.results16, go_sem, d0, d1]
    exact ⟨_, rfl, HBG.out.set2 d0 (.bool n5) (.slice a5 q5 c5), set2_below hb5 (Nat.le_succ _) _ _⟩
theorem Read_any (x : Int) (w : World) : Calls Tryd.prog 16 #[wI x] w (GivesBig w (sg x) 18) := Read_b x _ w rfl
end Go.Proofs.YtcfiemeknocgjaaDoor

namespace Go.Proofs.YtcfiemeknocgjaaDoor
open Go.RowKit

theorem dg_get {ds : List Int} {j : Nat} (h : j < ds.length) : (dg ds).toArray[j]? = some (.int .i64 (ds.getD j 0)) := by
  unfold dg; simp [h]
theorem dg_put (ds : List Int) (j : Nat) (v : Int) : (dg ds).toArray.setIfInBounds j (.int .i64 v) = (dg (ds.set j v)).toArray := by
  unfold dg; rw [List.setIfInBounds_toArray, List.map_set]
theorem dg_zero (n : Nat) : madeCells #[.int .i64 0] n = (dg (List.replicate n 0)).toArray := by
  unfold dg; rw [List.map_replicate, ← toList_madeCells_one]

/-- where the product stands -/
structure MulAt (w : World) (v1 v2 : Array Value) (out : List Int) (n : Nat) (wr : World) : Prop where
  k0 : Blk wr w.heap.size v1 34
  k1 : Blk wr (w.heap.size + 1) v2 34
  k2 : Blk wr (w.heap.size + 1 + 1) #[.bool false, .slice none 0 0] 34
  k3 : Blk wr (w.heap.size + 1 + 1 + 1) (dg out).toArray 3
  len : out.length = n
  below : Below w.heap.size w wr
theorem MulAt.drew {w : World} {v1 v2 : Array Value} {out : List Int} {n : Nat} {wr : World} (h : MulAt w v1 v2 out n wr) : MulAt w v1 v2 out n wr.drew := ⟨h.k0, h.k1, h.k2, h.k3, h.len, h.below.drew⟩
theorem MulAt.put {w : World} {v1 v2 : Array Value} {out : List Int} {n : Nat} {wr : World} (h : MulAt w v1 v2 out n wr) (j : Nat) (v : Int) : MulAt w v1 v2 (out.set j v) n (wr.setCell ⟨w.heap.size + 1 + 1 + 1, j, none⟩ (.int .i64 v)) :=
  ⟨h.k0.set (by omega) _ _ _, h.k1.set (by omega) _ _ _, h.k2.set (by omega) _ _ _, by rw [← dg_put]; exact Blk.put h.k3 _ _, by rw [List.length_set]; exact h.len, h.below.setCell (by show _ ≤ w.heap.size + 1 + 1 + 1; omega) _⟩
theorem MulAt.outc {w : World} {v1 v2 : Array Value} {out : List Int} {n : Nat} {wr : World} (h : MulAt w v1 v2 out n wr) {j : Nat} (hj : j < n) : wr.cell? ⟨w.heap.size + 1 + 1 + 1, j, none⟩ = some (.int .i64 (out.getD j 0)) := by
  rw [h.k3.cell]; exact dg_get (by rw [h.len]; exact hj)

set_option maxRecDepth 100000 in
set_option maxHeartbeats 2000000 in
theorem bigMul_go (neg neg' : Bool) (ao bo : Option Addr) (b b' cap cap' : Nat) (xs ys : List Int) (w : World) (ha : Sl w ao b cap xs) (hb : Sl w bo b' cap' ys) (da : DigOk xs) (db : DigOk ys)
    (hl1 : xs.length < 268435456) (hl2 : ys.length < 268435456) :
    Calls Tryd.prog 25 #[.agg #[.bool neg, .slice ao xs.length cap], .agg #[.bool neg', .slice bo ys.length cap']] w
      (GivesBig w (bif neg != neg' then -(dval xs * dval ys) else dval xs * dval ys) (xs.length + ys.length + 1)) := by
  have HA := Lib.hid ha
  have HB := Lib.hid hb
  have D := Lib.hid (And.intro da db)
  have la := hl1
  have lb := hl2
  clear ha hb da db hl1 hl2
  obtain ⟨N, hN⟩ : ∃ N, N = xs.length := ⟨_, rfl⟩
  obtain ⟨M, hM⟩ : ∃ M, M = ys.length := ⟨_, rfl⟩
  have HN := Lib.hid hN
  have HM := Lib.hid hM
  rw [← hN] at la ⊢
  rw [← hM] at lb ⊢
  clear hN hM
  have hmk := run_make_row' (P := Tryd.prog) 32 3 (.int .i64 0) 8 Tryd.underlying32 info_int rfl .i64 .i64 (N + M + 1) (by omega) (by omega)
  have e1 : ((N + M + 1 : Nat) : Int) = (N : Int) + (M : Int) + 1 := by omega
  rw [e1, dg_zero] at hmk
  clear e1
  go_enter Tryd.func25, Tryd.ntmps25
  go_wp2_with fail
  clear hmk
  refine name_world ?_
  intro W hW
  have hd0 : MulAt w #[.bool neg, .slice ao N cap] #[.bool neg', .slice bo M cap'] (List.replicate (N + M + 1) 0) (N + M + 1) W := by
    rw [hW]
    exact ⟨((Blk.new _ _ _).alloc _).alloc _ |>.alloc _, ((Blk.new1 _ _ _ _).alloc _).alloc _, (Blk.new2 _ _ _ _ _).alloc _, Blk.new3 _ _ _ _ _ _, List.length_replicate .., (below_a3 _ _ _ _).alloc (by simp; omega) _⟩
  clear hW
  go_loopw [6] (fun i wr => ∃ (k : Nat) (out : List Int), k ≤ N ∧ i = .int .i64 k ∧ Hid (Prd xs ys (N + M + 1) k 0 out 0) ∧ MulAt w #[.bool neg, .slice ao N cap] #[.bool neg', .slice bo M cap'] out (N + M + 1) wr) (fun i _ => N - (intOf i).toNat)
  case atStart => exact ⟨0, _, Nat.zero_le _, rfl, Prd.zero _ _ _, hd0⟩
  case round =>
    clear hd0 W
    rename_i wr
    obtain ⟨i, out, hi, rfl, hp, hd⟩ := hrel
    have c0 := hd.k0.cell 1
    have c1 := hd.k1.cell 1
    simp only [List.getElem?_toArray, List.getElem?_cons_zero, List.getElem?_cons_succ] at c0 c1
    by_cases h1 : i < N
    · have HD := Lib.hid hd
      clear hd
      go_wp2_with fail
      obtain ⟨wo, rfl⟩ : ∃ wo : World, wo = wr := ⟨_, rfl⟩
      have hd := HD.out
      clear c0 c1 HD
      go_loopw [7, 8] (fun c k wr => ∃ (j : Nat) (cv : Int) (out : List Int), j ≤ M ∧ k = .int .i64 j ∧ c = .int .i64 cv ∧ 0 ≤ cv ∧ cv ≤ 32767 ∧ Hid (Prd xs ys (N + M + 1) i j out cv) ∧ MulAt w #[.bool neg, .slice ao N cap] #[.bool neg', .slice bo M cap'] out (N + M + 1) wr) (fun _ k _ => M - (intOf k).toNat)
      case atStart => exact ⟨0, 0, out, Nat.zero_le _, rfl, rfl, by decide, by decide, hp, hd⟩
      case round =>
        clear hd hp
        rename World => wi
        obtain ⟨j, cv, out, hj, rfl, rfl, cv0, cv1, hp, hd⟩ := hrel
        have c0 := hd.k0.cell 1
        have c1 := hd.k1.cell 1
        simp only [List.getElem?_toArray, List.getElem?_cons_zero, List.getElem?_cons_succ] at c0 c1
        by_cases h2 : j < M
        · have ja : i < xs.length := by rw [← HN.out]; exact h1
          obtain rfl := HA.out.ptr (by omega)
          have e0 : wi.cell? ⟨b, i, none⟩ = some (.int .i64 (xs.getD i 0)) := by rw [hd.below.cell (p := ⟨b, i, none⟩) (HA.out.blk (by omega))]; exact HA.out.cell i ja
          have lb0 : b < wi.heap.size := Nat.lt_of_lt_of_le (HA.out.blk (by omega)) hd.below.size
          clear ja
          have jb : j < ys.length := by rw [← HM.out]; exact h2
          obtain rfl := HB.out.ptr (by omega)
          have e1 : wi.cell? ⟨b', j, none⟩ = some (.int .i64 (ys.getD j 0)) := by rw [hd.below.cell (p := ⟨b', j, none⟩) (HB.out.blk (by omega))]; exact HB.out.cell j jb
          have lb1 : b' < wi.heap.size := Nat.lt_of_lt_of_le (HB.out.blk (by omega)) hd.below.size
          have hst := fun (x y a : Int) (hx : x = xs.getD i 0) (hy : y = ys.getD j 0) (ha : a = out.getD (i + j) 0) => hp.out.step D.out.1 D.out.2 jb (by rw [← HM.out]; omega) hx hy ha
          clear jb
          have e2 := hd.outc (j := i + j) (by omega)
          obtain ⟨x0, x1⟩ := D.out.1.get i
          obtain ⟨y0, y1⟩ := D.out.2.get j
          obtain ⟨a0, a1⟩ := hp.out.ok.get (i + j)
          obtain ⟨x, hx⟩ : ∃ x, x = xs.getD i 0 := ⟨_, rfl⟩
          obtain ⟨y, hy⟩ : ∃ y, y = ys.getD j 0 := ⟨_, rfl⟩
          obtain ⟨a, ha⟩ : ∃ a, a = out.getD (i + j) 0 := ⟨_, rfl⟩
          have ST := Lib.hid (hst x y a hx hy ha)
          clear hst
          rw [← hx] at x0 x1 e0
          rw [← hy] at y0 y1 e1
          rw [← ha] at a0 a1 e2
          clear hx hy ha
          obtain ⟨n0, n1, n2, n3⟩ := prd_n ⟨a0, a1⟩ ⟨x0, x1⟩ ⟨y0, y1⟩ ⟨cv0, cv1⟩
          have f3 := hd.k3.free (i + j)
          have HD := Lib.hid hd
          clear hd hp
          go_wp2_with fail
          refine name_world ?_
          intro W hW
          subst hW
          have lw := HD.out.k0.lt
          have lw1 := HD.out.k1.lt
          have lw3 := HD.out.k3.lt
          refine wp_region_up W.heap.size 19 [(true, 0), (true, 1), (true, 2), (true, 3), (true, 4), (true, 5), (true, 6), (true, 7), (true, 8), (true, 9), (true, 10), (true, 11), (true, 12), (true, 13), (true, 14), (true, 15), (true, 16), (true, 17), (true, 18)] (by kernel_rfl) (by kernel_rfl) (fun _ _ d _ _ h => by cases d <;> exact h) ?_
          have hb : Below W.heap.size W W.drew := (Below.refl _ _).drew
          iterate 19
            refine wpS_takeL rfl rfl ?_
            go_big_quiet_step (rfl)
            refine wpQuiet_nil ?_
          refine wpS_nil ?_
          simp only [List.drop_succ_cons, List.drop_zero]
          clear c0 c1 e0 e1 lw lw1 lw3 lb0 lb1
          go_wp2
          go_roundw
          case rel => exact ⟨j + 1, (a + x * y + cv) / 32768, _, by omega, by go_num, rfl, n2, n3, ST.out, HD.out.drew.put _ _⟩
          case measure => simp [intOf]; omega
        · have hjm : j = M := by omega
          subst hjm
          have e2 := hd.outc (j := i + j) (by omega)
          obtain ⟨a0, a1⟩ := hp.out.ok.get (i + j)
          obtain ⟨a, ha⟩ : ∃ a, a = out.getD (i + j) 0 := ⟨_, rfl⟩
          have hst : Prd xs ys (N + j + 1) (i + 1) 0 (out.set (i + j) (a + cv)) 0 := by
            have e := HM.out
            subst e
            exact hp.out.row (by omega) ha
          rw [← ha] at a0 a1 e2
          have ST := Lib.hid hst
          have f3 := hd.k3.free (i + j)
          have HD := Lib.hid hd
          clear hd hp hst ha
          go_wp2
          go_roundw
          case rel => exact ⟨i + 1, _, by omega, by go_num, ST.out, HD.out.put _ _⟩
          case measure => simp [intOf]; omega
    · have hin : i = N := by omega
      have hp2 : DigOk out ∧ dval out = dval xs * dval ys := by
        have e := hin.trans HN.out
        subst e
        exact hp.out.all rfl
      have HP := Lib.hid hp2
      have hlen := hd.len
      have d2 := hd.k0.cell 0
      have d3 := hd.k1.cell 0
      simp only [List.getElem?_toArray, List.getElem?_cons_zero] at d2 d3
      have hlo : Sl wr (some ⟨w.heap.size + 1 + 1 + 1, 0, none⟩) (w.heap.size + 1 + 1 + 1) (N + M + 1) out := by
        refine ⟨fun _ => rfl, fun h => (by cases h), by omega, by omega, by omega, fun k hk => ?_, fun _ => hd.k3.lt⟩
        rw [hlen] at hk
        exact hd.outc hk
      have SL := Lib.hid hlo
      have HL := Lib.hid hlen
      have HD := Lib.hid hd
      clear hp2 hp hin hlen hlo hd
      go_wp2_with fail
      have T := trim_any (!neg == neg') (some ⟨w.heap.size + 1 + 1 + 1, 0, none⟩) (w.heap.size + 1 + 1 + 1) (N + M + 1) out wr SL.out HP.out.1 (N + M + 1) (Nat.le_of_eq HL.out)
      rw [HL.out, HP.out.2] at T
      refine T.mono ?_
      clear T
      rintro e w3 ⟨v3, rfl, hbig, hn⟩
      have HBG := Lib.hid hbig
      have hvv := hbig.shape
      clear hbig
      obtain ⟨n3, a3, q3, c3, rfl⟩ := hvv
      have k2 := HD.out.k2.of hn
      have hb2 := HD.out.below.trans (hn.mono HD.out.below.size)
      have d4 := k2.cell 0
      have d5 := k2.cell 1
      have f4 := k2.free 0
      have f5 := k2.free 1
      simp only [List.getElem?_toArray, List.getElem?_cons_zero, List.getElem?_cons_succ] at d4 d5
      clear hn k2 c0 c1 d2 d3
      go_wp2
      simp [bodyPost, results, Tryd.results25, go_sem, d4, d5]
      refine ⟨_, rfl, ?_, set2_below hb2 (by omega) _ _⟩
      have hx : (!neg == neg') = (neg != neg') := by cases neg <;> cases neg' <;> rfl
      rw [← hx]
      exact HBG.out.set2 d4 (.bool n3) (.slice a3 q3 c3)

theorem bigMul_any (v v' : Value) (n m : Int) (L L' : Nat) (w : World) (h : Big w v n L) (h' : Big w v' m L') (hL : L + L' < 268435456) :
    Calls Tryd.prog 25 #[v, v'] w (GivesBig w (n * m) (L + L')) := by
  obtain ⟨neg, ao, b, cap, ds, rfl, hs, hd, hn, hz, hv, hl⟩ := h
  obtain ⟨neg', ao', b', cap', ds', rfl, hs', hd', hn', hz', hv', hl'⟩ := h'
  refine (bigMul_go neg neg' ao ao' b b' cap cap' ds ds' w hs hs' hd hd' (by omega) (by omega)).mono ?_
  intro e w2 hg
  have hx : n * m = (bif neg != neg' then -(dval ds * dval ds') else dval ds * dval ds') := by
    rw [hv, hv']; cases neg <;> cases neg' <;> simp [Int.neg_mul, Int.mul_neg]
  rw [hx]
  refine hg.fit ?_
  have h1 := dval_bd hd
  have h2 := dval_bd hd'
  have h3 : 0 ≤ dval ds * dval ds' := Int.mul_nonneg h1.1 h2.1
  have h4 : dval ds * dval ds' < P15 (L + L') := by
    have g1 := P15_le hl
    have g2 := P15_le hl'
    rw [P15_add]
    have g3 : dval ds * dval ds' ≤ (P15 L - 1) * (P15 L' - 1) := Int.mul_le_mul (by omega) (by omega) h2.1 (by have := P15_pos L; omega)
    have g4 : (P15 L - 1) * (P15 L' - 1) = P15 L * P15 L' - P15 L - P15 L' + 1 := by rw [Int.sub_mul, Int.mul_sub]; omega
    have := P15_pos L; have := P15_pos L'
    omega
  cases neg <;> cases neg' <;> simp <;> omega
end Go.Proofs.YtcfiemeknocgjaaDoor

namespace Go.Proofs.YtcfiemeknocgjaaDoor.Far
open Go Go.RowKit Go.Proofs.YtcfiemeknocgjaaDoor
section
variable {P : Program} {ops : Array Oper} {Q : Exit → Act → World → Prop} {md : Region.Mode} {W : World}

/-- does one item of the schedule fit the edges? -/
def itemB (md : Region.Mode) (ops : Array Oper) (j0 k i : Nat) (listed : Array Bool) : Bool :=
  match k with
  | 0 => i != j0 && (waitsN md ops 7 j0 i || decide (ops.size ≤ j0)) && (Region.ready md ops listed).contains i && Region.free md ops listed i
  | 2 => i != j0 && (Region.ready md ops listed).contains i && Region.free md ops listed i
  | 1 => i != j0 && decide (Region.ready md ops listed = [i])
  | _ => (i == j0 || listed.getD j0 false) && decide (Region.ready md ops listed = [i])

def schedG (md : Region.Mode) (ops : Array Oper) (j0 : Nat) : List (Nat × Nat) → Array Bool → Bool
  | [], listed => decide (Region.ready md ops listed = [])
  | (k, i) :: σ, listed => itemB md ops j0 k i listed && schedG md ops j0 σ (listed.setIfInBounds i true)

theorem cls_of {C : World → Prop} {j0 i : Nat} {listed : Array Bool} {w : World} (hw : (waitsN md ops 7 j0 i || decide (ops.size ≤ j0)) = true) (inv : HeadInv md ops ops.size listed) (hun : listed.getD i true = false)
    (h : ClsAt C j0 listed w) : C w := by
  rcases h with h | h
  · exact h
  · rw [Bool.or_eq_true, decide_eq_true_eq] at hw
    rcases hw with hw | hw
    · have h2 := waitsN_listed inv _ _ _ hw h
      rw [getD_both hun] at h2; cases h2
    · have : listed.getD j0 false = false := by
        have hs := inv.size
        simp [Array.getElem?_eq_none (by omega : listed.size ≤ j0)]
      rw [this] at h; cases h

theorem wpAnyHS_of_G {C : World → Prop} {j0 : Nat} (hsel : Region.noSelect ops = true) (hQ : ∀ c a d v w, Q (.panic c) (Act.put a d v) w → Q (.panic c) a w) :
    ∀ (σ : List (Nat × Nat)) (listed : Array Bool) (a : Act) (w : World), HeadInv md ops ops.size listed → schedG md ops j0 σ listed = true → ClsAt C j0 listed w → wpG P ops C Q σ a w →
    wpAnyHS P md ops Q C j0 (fun listed' a' w' => Region.ready md ops listed' = [] ∧ Q .normal a' w') σ.length listed a w
  | [], listed, a, w, _, hB, _, h => ⟨by simpa [schedG] using hB, h⟩
  | (0, i) :: σ, listed, a, w, inv, hB, hC, h => by
    simp only [schedG, itemB, Bool.and_eq_true, bne_iff_ne] at hB
    obtain ⟨⟨⟨⟨hij, hw⟩, hr⟩, hf⟩, hB'⟩ := hB
    obtain ⟨o, v, ho, hy, hK⟩ := h
    have hr' : i ∈ Region.ready md ops listed := by simpa using hr
    exact wpAnyHS_first ho (Region.noSelect_spec hsel) hQ hij (fun l w il hu hc => cls_of hw il hu hc) (fun l a w hL => hL.1) σ.length listed a w inv
      (Region.free_spec ho hf) hr' hy hC (wpAnyHS_of_G hsel hQ σ _ _ _ (HeadInv.all inv hr') hB' (hC.imp id getD_set_true) hK)
  | (2, i) :: σ, listed, a, w, inv, hB, hC, h => by
    simp only [schedG, itemB, Bool.and_eq_true, bne_iff_ne] at hB
    obtain ⟨⟨⟨hij, hr⟩, hf⟩, hB'⟩ := hB
    obtain ⟨o, v, ho, hy, hK⟩ := h
    have hr' : i ∈ Region.ready md ops listed := by simpa using hr
    exact wpAnyHS_first ho (Region.noSelect_spec hsel) hQ hij (fun _ _ _ _ _ => trivial) (fun l a w hL => hL.1) σ.length listed a w inv
      (Region.free_spec ho hf) hr' hy hC (wpAnyHS_of_G hsel hQ σ _ _ _ (HeadInv.all inv hr') hB' (hC.imp id getD_set_true) hK)
  | (1, i) :: σ, listed, a, w, inv, hB, hC, h => by
    simp only [schedG, itemB, Bool.and_eq_true, decide_eq_true_eq] at hB
    obtain ⟨⟨_, hr⟩, hB'⟩ := hB
    refine ⟨by rw [hr]; simp, fun j hj => ?_⟩
    have hji : j = i := by rw [hr] at hj; simpa using hj
    subst hji
    exact wpOp_mono (fun a' w' h' => ⟨.inl h'.1, wpAnyHS_of_G hsel hQ σ _ _ _ (HeadInv.all inv hj) hB' (.inl h'.1) h'.2⟩) h
  | (k + 3, i) :: σ, listed, a, w, inv, hB, hC, h => by
    simp only [schedG, itemB, Bool.and_eq_true, decide_eq_true_eq, Bool.or_eq_true, beq_iff_eq] at hB
    obtain ⟨⟨hj0, hr⟩, hB'⟩ := hB
    refine ⟨by rw [hr]; simp, fun j hj => ?_⟩
    have hji : j = i := by rw [hr] at hj; simpa using hj
    subst hji
    have hc : ∀ w', ClsAt C j0 (listed.setIfInBounds j true) w' := by
      intro w'
      refine .inr ?_
      rcases hj0 with h | h
      · subst h
        obtain ⟨_, o, ho, _⟩ := mem_ready.1 hj
        have := (Array.getElem?_eq_some_iff.1 ho).1
        rw [getD_set (by rw [inv.size]; exact this)]; simp
      · exact getD_set_true h
    exact wpOp_mono (fun a' w' h' => ⟨hc w', wpAnyHS_of_G hsel hQ σ _ _ _ (HeadInv.all inv hj) hB' (hc w') h'⟩) h

/-- the first part of a schedule: its items lie below j0, and none of them is number j0 or comes behind it -/
def schedFG (md : Region.Mode) (ops : Array Oper) (j0 : Nat) (τ : List (Nat × Nat)) : List (Nat × Nat) → Array Bool → Bool
  | [], listed => decide (Region.ready md ops listed = [j0]) && schedG md ops j0 τ listed
  | (k, i) :: σ, listed => decide (i < j0) && (k == 0 || k == 1 || k == 2) && itemB md ops j0 k i listed && schedFG md ops j0 τ σ (listed.setIfInBounds i true)

theorem floatG_main {j0 : Nat} {A : List Nat} {z : Nat → Obj} {τ : List (Nat × Nat)} (hsel : Region.noSelect ops = true) (hQ : ∀ c a d v w, Q (.panic c) (Act.put a d v) w ↔ Q (.panic c) a w) (hj0 : j0 < ops.size)
    (ok : FloatOk ops j0 A) (hAw : ∀ i ∈ A, Region.waitsFor md ops j0 i = true) (hAl : ∀ i ∈ A, ∀ oi, ops[i]? = some oi → ∀ ρ w, (execOp ρ oi).run P w = .ok (.value (ptrTo w.heap.size)) (w.alloc (z i))) :
    ∀ (f : Nat) (σ : List (Nat × Nat)) (D : List Nat) (β : Nat → Nat) (a0 : Act) (w0 w : World) (ls listed : Array Bool), σ.length + (A.length - D.length) = f → FlSt md ops ops.size A W z ls listed D β w →
      schedFG md ops j0 τ σ ls = true → Below w0.heap.size w0 w → wpFG P ops W Q (fun a w => ∀ w1, Below w.heap.size w w1 → Below W.heap.size W w1 → ∀ β, Good W z β A w1 → wpG P ops (fun w' => ∃ u : UpTo W.heap.size W, w' = u.w) Q τ (puts ops β A a) w1) σ a0 w0 →
      wpAnyHS P md ops Q (fun w' => ∃ u : UpTo W.heap.size W, w' = u.w) j0 (fun listed' a' w' => Region.ready md ops listed' = [] ∧ Q .normal a' w') (f + τ.length) listed (puts ops β D a0) w := by
  intro f
  have fin : ∀ (D : List Nat) (β : Nat → Nat) (a0 : Act) (w0 w : World) (ls listed : Array Bool), A.length ≤ D.length → FlSt md ops ops.size A W z ls listed D β w → schedG md ops j0 τ ls = true → Below w0.heap.size w0 w →
      (∀ w1, Below w0.heap.size w0 w1 → Below W.heap.size W w1 → ∀ β, Good W z β A w1 → wpG P ops (fun w' => ∃ u : UpTo W.heap.size W, w' = u.w) Q τ (puts ops β A a0) w1) →
      wpAnyHS P md ops Q (fun w' => ∃ u : UpTo W.heap.size W, w' = u.w) j0 (fun listed' a' w' => Region.ready md ops listed' = [] ∧ Q .normal a' w') τ.length listed (puts ops β D a0) w := by
    intro D β a0 w0 w ls listed hlen s hB hb h
    have hp : D.Perm A := nodup_perm s.dn s.da hlen
    have e : listed = ls := by
      refine Array.ext (s.size.trans s.lsz.symm) fun i h1 h2 => ?_
      have e1 : listed.getD i false = listed[i] := by simp [h1]
      have e2 : ls.getD i false = ls[i] := by simp [h2]
      rw [← e1, ← e2, Bool.eq_iff_iff]
      refine ⟨s.sub i, fun hi => ?_⟩
      by_cases hA : i ∈ A
      · exact (s.flo i hA).2 (hp.mem_iff.2 hA)
      · exact s.sup i hi hA
    rw [puts_perm ok β a0 s.da hp, e]
    exact wpAnyHS_of_G hsel (fun c a d v w => (hQ c a d v w).1) τ ls _ w (e ▸ s.inv) hB (.inl (up_iff.2 s.cw)) (h w hb s.cw β ⟨fun i hi => s.good.1 i (hp.mem_iff.2 hi), fun i hi j hj => s.good.2 i (hp.mem_iff.2 hi) j (hp.mem_iff.2 hj)⟩)
  induction f with
  | zero =>
    intro σ D β a0 w0 w ls listed hf s hB hb h
    have hσ : σ = [] := List.length_eq_zero_iff.1 (by omega)
    subst hσ
    simp only [schedFG, Bool.and_eq_true] at hB
    rw [Nat.zero_add]
    exact fin D β a0 w0 w ls listed (by simp only [List.length_nil] at hf; omega) s hB.2 hb h
  | succ f ih =>
    intro σ D β a0 w0 w ls listed hf s hB hb h
    rw [show f + 1 + τ.length = (f + τ.length) + 1 by omega]
    have allocs : ∀ i, i ∈ A → i ∉ D → wpOp P ops Q i (fun a' w' => ClsAt (fun w' => ∃ u : UpTo W.heap.size W, w' = u.w) j0 (listed.setIfInBounds i true) w' ∧ wpAnyHS P md ops Q (fun w' => ∃ u : UpTo W.heap.size W, w' = u.w) j0 (fun listed' a' w' => Region.ready md ops listed' = [] ∧ Q .normal a' w') (f + τ.length) (listed.setIfInBounds i true) a' w') (puts ops β D a0) w := by
      intro i hA hD
      refine made_step ok hAl hA hD ?_
      have s' := s.made ok (Nat.le_of_lt hj0) hA hD
      refine ⟨.inl (up_iff.2 s'.cw), ih σ (i :: D) _ a0 w0 (w.alloc (z i)) ls _ ?_ s' hB (hb.alloc hb.size _) h⟩
      have hle : (i :: D).length ≤ A.length := nodup_le (List.nodup_cons.2 ⟨hD, s.dn⟩) s'.da
      simp only [List.length_cons] at hle ⊢
      omega
    match σ, hf, hB, h with
    | [], hf, hB, h =>
      simp only [schedFG, Bool.and_eq_true, decide_eq_true_eq] at hB
      have hpend : ∃ i, i ∈ A ∧ i ∉ D := by
        refine Classical.byContradiction fun hno => ?_
        have hsub : ∀ i ∈ A, i ∈ D := fun i hi => Classical.byContradiction fun h' => hno ⟨i, hi, h'⟩
        have := nodup_le ok.nodup hsub
        simp only [List.length_nil] at hf; omega
      obtain ⟨i, hA, hD⟩ := hpend
      have hri := s.pending ok hA hD
      refine ⟨fun h0 => (by rw [h0] at hri; cases hri), fun j hj => ?_⟩
      rcases s.ready hj with ⟨h1, h2⟩ | ⟨_, h2⟩
      · exact allocs j h1 h2
      · rw [hB.1] at h2
        have hjj : j = j0 := by simpa using h2
        subst hjj
        obtain ⟨o, ho, e, he, hbd, hon⟩ := Region.waitsFor_spec (hAw i hA)
        obtain ⟨_, o', ho', hall⟩ := mem_ready.1 hj
        obtain rfl : o = o' := Option.some.inj (ho.symm.trans ho')
        have h3 := hall e he hbd
        rw [hon] at h3
        exact absurd ((s.flo i hA).1 h3) hD
    | (0, i) :: σ, hf, hB, h =>
      simp only [schedFG, itemB, Bool.and_eq_true, decide_eq_true_eq, bne_iff_ne] at hB
      obtain ⟨⟨⟨hin, _⟩, ⟨⟨hij, hw⟩, hr⟩, hfr⟩, hB'⟩ := hB
      obtain ⟨o, v, ho, hy, hK⟩ := h
      have hr' : i ∈ Region.ready md ops ls := by simpa using hr
      obtain ⟨hiA, hrl⟩ := s.ready_of ok hin hr'
      have hsj := Region.noSelect_spec hsel i o
      refine wpAnyHS_first ho (Region.noSelect_spec hsel) (fun c a d v w => (hQ c a d v w).1) hij (fun l w il hu hc => cls_of hw il hu hc) (fun l a w hL => hL.1) _ listed _ w s.inv
        (free_of s ok hin ho hfr) hrl (puts_yields ok β ho hin hiA (fun cs b => hsj cs b ho) a0 hy D s.da) (.inl (up_iff.2 s.cw)) ?_
      rw [puts_put ok β ho hin hiA v a0 D s.da]
      exact ih σ D β _ w0 w _ _ (by simp only [List.length_cons] at hf; omega) (s.step (Nat.lt_trans hin hj0) hiA hrl (Below.refl _ _)) hB' hb hK
    | (2, i) :: σ, hf, hB, h =>
      simp only [schedFG, itemB, Bool.and_eq_true, decide_eq_true_eq, bne_iff_ne] at hB
      obtain ⟨⟨⟨hin, _⟩, ⟨hij, hr⟩, hfr⟩, hB'⟩ := hB
      obtain ⟨o, v, ho, hy, hK⟩ := h
      have hr' : i ∈ Region.ready md ops ls := by simpa using hr
      obtain ⟨hiA, hrl⟩ := s.ready_of ok hin hr'
      have hsj := Region.noSelect_spec hsel i o
      refine wpAnyHS_first ho (Region.noSelect_spec hsel) (fun c a d v w => (hQ c a d v w).1) hij (fun _ _ _ _ _ => trivial) (fun l a w hL => hL.1) _ listed _ w s.inv
        (free_of s ok hin ho hfr) hrl (puts_yields ok β ho hin hiA (fun cs b => hsj cs b ho) a0 hy D s.da) (.inl (up_iff.2 s.cw)) ?_
      rw [puts_put ok β ho hin hiA v a0 D s.da]
      exact ih σ D β _ w0 w _ _ (by simp only [List.length_cons] at hf; omega) (s.step (Nat.lt_trans hin hj0) hiA hrl (Below.refl _ _)) hB' hb hK
    | (1, i) :: σ, hf, hB, h =>
      simp only [schedFG, itemB, Bool.and_eq_true, decide_eq_true_eq, bne_iff_ne] at hB
      obtain ⟨⟨⟨hin, _⟩, hij, hr⟩, hB'⟩ := hB
      obtain ⟨hiA, hrl⟩ := s.ready_of ok hin (by rw [hr]; simp : i ∈ Region.ready md ops ls)
      refine ⟨fun h0 => (by rw [h0] at hrl; cases hrl), fun j hj => ?_⟩
      rcases s.ready hj with ⟨h1, h2⟩ | ⟨_, h2⟩
      · exact allocs j h1 h2
      · have hji : j = i := by rw [hr] at h2; simpa using h2
        subst hji
        obtain ⟨_, o, ho, _⟩ := mem_ready.1 hrl
        have hsj := Region.noSelect_spec hsel j o
        refine wpOp_mono (fun a' w' h' => ?_) (wpOp_at_puts ok β ho hin hiA (fun cs b => hsj cs b ho) hQ D s.da (h w hb))
        obtain ⟨a1, rfl, hb1, hK⟩ := h'
        have s' := s.step (Nat.lt_trans hin hj0) hiA hrl hb1
        exact ⟨.inl (up_iff.2 s'.cw), ih σ D β a1 w' w' _ _ (by simp only [List.length_cons] at hf; omega) s' hB' (Below.refl _ _) hK⟩
    | (k + 3, i) :: σ, hf, hB, h =>
      simp only [schedFG, Bool.and_eq_true] at hB
      obtain ⟨⟨⟨_, hk⟩, _⟩, _⟩ := hB
      simp at hk


/-- THE LAW: new variables A, and several stores. -/
theorem wp_region_FG {id : Nat} {a : Act} {w : World} {l : List Oper} (j0 : Nat) (A : List Nat) (z : Nat → Obj) (σ τ : List (Nat × Nat)) (hm : P.follows .mixedOrders = true)
    (hB : (Region.noSelect l.toArray && decide (σ.length + A.length + τ.length = l.length) && decide (j0 < l.length) && floatB l.toArray j0 A && (A.all fun i => Region.waitsFor .any l.toArray j0 i) &&
      schedFG .any l.toArray j0 τ σ ((List.range l.length).map (fun i => A.contains i)).toArray) = true)
    (hQ : ∀ c a d v w, Q (.panic c) (Act.put a d v) w ↔ Q (.panic c) a w)
    (hAl : ∀ i ∈ A, ∀ oi, l[i]? = some oi → ∀ ρ w, (execOp ρ oi).run P w = .ok (.value (ptrTo w.heap.size)) (w.alloc (z i)))
    (h : wpFG P l.toArray w Q (fun a w' => ∀ w1, Below w'.heap.size w' w1 → Below w.heap.size w w1 → ∀ β, Good w z β A w1 → wpG P l.toArray (fun w' => ∃ u : UpTo w.heap.size w, w' = u.w) Q τ (puts l.toArray β A a) w1) σ a w.drew) : (Code.region id l.toArray true).wp P Q a w := by
  simp only [Bool.and_eq_true, decide_eq_true_eq] at hB
  obtain ⟨⟨⟨⟨⟨hsel, hlen⟩, hj⟩, hfl⟩, hw⟩, hs⟩ := hB
  have ok := floatB_ok hfl
  have hls : ∀ j, ((List.range l.length).map (fun i => A.contains i)).toArray.getD j false = true ↔ j ∈ A ∧ j < l.length := by
    intro j
    by_cases hj : j < l.length
    · simp [hj]
    · simp [hj]
  have s0 : FlSt .any l.toArray l.toArray.size A w z ((List.range l.length).map (fun i => A.contains i)).toArray (Array.replicate l.toArray.size false) [] (fun _ => 0) w.drew := by
    refine ⟨by simp, by simp, fun j hj => (by rw [getD_replicate_false] at hj; cases hj), fun j hj hA => absurd ((hls j).1 hj).1 hA, fun j _ => ?_, fun i hi => ?_, HeadInv.none, List.nodup_nil, fun i hi => (by cases hi), (Below.refl _ _).drew, fun i hi => (by cases hi), fun i hi => (by cases hi)⟩
    · rw [getD_replicate_false]; simp
    · obtain ⟨_, oi, hoi, _⟩ := ok.at_ i hi
      have := (Array.getElem?_eq_some_iff.1 hoi).1
      exact (hls i).2 ⟨hi, by simpa using this⟩
  have H := floatG_main (τ := τ) hsel hQ (by simpa using hj) ok (fun i hi => List.all_eq_true.1 hw i hi) (fun i hi oi ho => hAl i hi oi (by simpa using ho)) _ σ [] (fun _ => 0) a w.drew w.drew _ _ rfl s0 hs (Below.refl _ _) h
  refine wp_region_any hm ?_
  have := wpAny_of_HS (g := 0) (fun listed a' w' hL => (⟨hL.1, hL.2⟩ : wpAny P .any l.toArray Q 0 listed a' w')) _ _ _ _ H
  have e : σ.length + (A.length - ([] : List Nat).length) + τ.length + 0 = l.toArray.size := by simp; omega
  rw [e] at this
  exact this

/-- two new variables, several stores -/
theorem wp_region_FG2 {id : Nat} {a : Act} {w : World} {l : List Oper} (j0 i j : Nat) (σ τ : List (Nat × Nat)) {o o' : Oper} {d d' : Tmp} {t t' : TypeId} {c c' : Array Value} (hm : P.follows .mixedOrders = true)
    (hB : (Region.noSelect l.toArray && decide (σ.length + [i, j].length + τ.length = l.length) && decide (j0 < l.length) && floatB l.toArray j0 [i, j] && ([i, j].all fun i => Region.waitsFor .any l.toArray j0 i) &&
      schedFG .any l.toArray j0 τ σ ((List.range l.length).map (fun k => [i, j].contains k)).toArray) = true)
    (hQ : ∀ c a d v w, Q (.panic c) (Act.put a d v) w ↔ Q (.panic c) a w) (ho : l[i]? = some o) (hop : o.op = .alloc t) (hd : o.dst = some d) (hr : AllocRuns P t c)
    (ho' : l[j]? = some o') (hop' : o'.op = .alloc t') (hd' : o'.dst = some d') (hr' : AllocRuns P t' c') (hij : (i == j) = false)
    (h : wpFG P l.toArray w Q (fun a w' => ∀ w1, Below w'.heap.size w' w1 → Below w.heap.size w w1 → ∀ b b', b ≠ b' → w.heap.size ≤ b → w1.heap[b]? = some (.cells c t) → w.heap.size ≤ b' → w1.heap[b']? = some (.cells c' t') →
      wpG P l.toArray (fun w' => ∃ u : UpTo w.heap.size w, w' = u.w) Q τ ((a.put (some d') (ptrTo b')).put (some d) (ptrTo b)) w1) σ a w.drew) :
    (Code.region id l.toArray true).wp P Q a w := by
  have hij : i ≠ j := by simpa using hij
  refine wp_region_FG j0 [i, j] (fun k => if k = i then .cells c t else .cells c' t') σ τ hm hB hQ (fun k hk oi hoi ρ w => ?_) (wpFG_mono (fun a w' h' w1 hb1 hb2 β hg => ?_) _ _ _ h)
  · rcases List.mem_cons.1 hk with rfl | hk
    · obtain rfl : o = oi := Option.some.inj (ho.symm.trans hoi)
      rw [if_pos rfl]; exact alloc_of hr o hop ρ w
    · obtain rfl : k = j := by simpa using hk
      obtain rfl : o' = oi := Option.some.inj (ho'.symm.trans hoi)
      rw [if_neg (Ne.symm hij)]; exact alloc_of hr' o' hop' ρ w
  · have h1 := hg.1 i (by simp)
    have h2 := hg.1 j (by simp)
    simp only [if_pos] at h1
    simp only [if_neg (Ne.symm hij)] at h2
    have e : puts l.toArray β [i, j] a = (a.put (some d') (ptrTo (β j))).put (some d) (ptrTo (β i)) := by
      show (a.put (dstOf l.toArray j) _).put (dstOf l.toArray i) _ = _
      simp [dstOf, ho, hd, ho', hd']
    rw [e]
    exact h' w1 hb1 hb2 _ _ (hg.2 i (by simp) j (by simp) hij) h1.1 h1.2 h2.1 h2.2

end
end Go.Proofs.YtcfiemeknocgjaaDoor.Far

namespace Go.Proofs.YtcfiemeknocgjaaDoor
open Go.RowKit

/-- a row of stores -/
@[reducible] def setL : World → Nat → Nat → List Value → World
  | w, _, _, [] => w
  | w, b, o, v :: l => setL (w.setCell ⟨b, o, none⟩ v) b (o + 1) l
def putA : Array Value → Nat → List Value → Array Value
  | c, _, [] => c
  | c, o, v :: l => putA (c.setIfInBounds o v) (o + 1) l
theorem size_setL (w : World) (b o : Nat) (l : List Value) : (setL w b o l).heap.size = w.heap.size := by
  induction l generalizing w o with
  | nil => rfl
  | cons v l ih => unfold setL; rw [ih, size_set]
theorem blk_setL {w : World} {b b' : Nat} {c : Array Value} {t : TypeId} (h : Blk w b c t) (hne : b ≠ b') (o : Nat) (l : List Value) : Blk (setL w b' o l) b c t := by
  induction l generalizing w o with
  | nil => exact h
  | cons v l ih => unfold setL; exact ih (h.set hne _ _ _) _
theorem blk_putL {w : World} {b : Nat} {c : Array Value} {t : TypeId} (h : Blk w b c t) (o : Nat) (l : List Value) : Blk (setL w b o l) b (putA c o l) t := by
  induction l generalizing w o c with
  | nil => exact h
  | cons v l ih => unfold setL putA; exact ih (h.put _ _) _
theorem putA_full (p q l : List Value) (h : q.length = l.length) : putA (p ++ q).toArray p.length l = (p ++ l).toArray := by
  induction l generalizing p q with
  | nil => cases q with
    | nil => rfl
    | cons x q => cases h
  | cons v l ih => cases q with
    | nil => cases h
    | cons x q =>
      unfold putA
      have e : ((p ++ x :: q).toArray.setIfInBounds p.length v) = ((p ++ [v]) ++ q).toArray := by simp
      rw [e, show p.length + 1 = (p ++ [v]).length by simp, ih (p ++ [v]) q (by simpa using h)]
      simp
theorem blk_full {w : World} {b : Nat} {t : TypeId} (q l : List Value) (h : Blk w b q.toArray t) (hl : q.length = l.length) : Blk (setL w b 0 l) b l.toArray t := by
  have := blk_putL h 0 l
  rw [show putA q.toArray 0 l = l.toArray from putA_full [] q l hl] at this
  exact this
theorem blw_setL {B : Nat} {W w : World} {b : Nat} (h : Below B W w) (hB : B ≤ b) (o : Nat) (l : List Value) : Below B W (setL w b o l) := by
  induction l generalizing w o with
  | nil => exact h
  | cons v l ih => unfold setL; exact ih (h.setCell hB _) _
theorem blw_al {W w : World} (h : Below W.heap.size W w) (o : Obj) : Below W.heap.size W (w.alloc o) := h.alloc h.size o
theorem args_eq {f : FuncId} {a a' : Array Value} {w : World} {R : Ending → World → Prop} (h : Calls Tryd.prog f a w R) (ha : a = a') : Calls Tryd.prog f a' w R := ha ▸ h
theorem wrap64_id {x : Int} (h : In64 x) : wrap64 x = x := by unfold wrap64; unfold In64 at h; omega
theorem in_0 : InI 0 := by unfold InI b255; omega
/-- the product, if it fits; else 0 -/
def mulv (x y : Int) : Int := bif okI (x * y) then x * y else 0
theorem ok_in {z : Int} : InI (bif okI z then z else 0) := by
  cases h : okI z
  · exact in_0
  · exact of_decide_eq_true h
theorem mulv_in (x y : Int) : InI (mulv x y) := ok_in
theorem Mul_v (x y p : Int) (o : Bool) (hp : mulv x y = p) (ho : okI (x * y) = o) (ix : InI x) (iy : InI y) (w : World) :
    Calls Tryd.prog 32 #[wI x, wI y] w fun e w' => e = .returned (.tuple #[wI p, .bool o]) ∧ Below w.heap.size w w' := by
  refine Mul_is x y o ho p ?_ w ix iy
  rw [← ho]; exact hp
theorem Cmp_v (x y c : Int) (h : cmpI x y = c) (ix : InI x) (iy : InI y) (w : World) :
    Calls Tryd.prog 44 #[wI x, wI y] w fun e w' => e = .returned (.int .i64 c) ∧ Below w.heap.size w w' := h ▸ Cmp_any x y w ix iy
theorem Of_v (n d : Int) (h : n = d) (g : In64 n) (w : World) :
    Calls Tryd.prog 31 #[.int .i64 n] w fun e w' => e = .returned (wI d) ∧ Below w.heap.size w w' := h ▸ Of_any n w g
@[go_sem] theorem eq4_self (a b c d : Int) : eq4 a b c d a b c d = true := by unfold eq4; simp
@[go_sem] theorem eq4_00 : eq4 (wd0 0) (wd1 0) (wd2 0) (wd3 0) 0 0 0 0 = true := by decide
end Go.Proofs.YtcfiemeknocgjaaDoor

namespace Go.Proofs.YtcfiemeknocgjaaDoor
open Go.RowKit

def btn (x : Int) : Int := (Go.bitLen (sz x).toNat : Int)
theorem sz_in2 {x : Int} (h : InI x) : 0 ≤ sz x ∧ sz x ≤ b255 := by
  unfold sz; rw [ng_in h]; unfold InI b255 at *
  by_cases g : x < 0
  · rw [decide_eq_true g]; rw [cond_true]; omega
  · rw [decide_eq_false g]; rw [cond_false]; omega
theorem bl_eq {a : Nat} (h : a < 2 ^ 64) : Lib.bitLen a = Go.bitLen a := by
  have s := Go.bitLen_spec a
  by_cases h0 : a = 0
  · subst h0; decide
  · have t := Lib.bitLenAux_bounds 64 a h h0
    have t' : 1 ≤ Lib.bitLen a ∧ 2 ^ (Lib.bitLen a - 1) ≤ a ∧ a < 2 ^ Lib.bitLen a := t
    have s1 := s.1
    have s2 := s.2 h0
    obtain ⟨t0, t1, t2⟩ := t'
    have a1 : Lib.bitLen a - 1 < Go.bitLen a := (Nat.pow_lt_pow_iff_right (by decide : 1 < 2)).1 (Nat.lt_of_le_of_lt t1 s1)
    have a2 : Go.bitLen a - 1 < Lib.bitLen a := (Nat.pow_lt_pow_iff_right (by decide : 1 < 2)).1 (Nat.lt_of_le_of_lt s2 t2)
    omega
theorem btn_hi {s : Int} {j : Nat} {a J : Int} (h0 : 0 ≤ s) (hJ : (2 : Int) ^ j = J) (ha : a = s / J) (hn : ¬ a = 0) (hb : a < 18446744073709551616) : (Go.bitLen s.toNat : Int) = j + (Lib.bitLen a.toNat : Int) := by
  obtain ⟨n, rfl⟩ := Int.eq_ofNat_of_zero_le h0
  have hJ' : ((2 ^ j : Nat) : Int) = J := by rw [← hJ]; simp
  have e : (n : Int).toNat / 2 ^ j = a.toNat := by
    rw [ha, ← hJ', ← Int.natCast_ediv]; rfl
  have ha0 : 0 ≤ a := by rw [ha]; exact Int.ediv_nonneg h0 (by rw [← hJ']; exact Int.natCast_nonneg _)
  have hn' : (n : Int).toNat / 2 ^ j ≠ 0 := by rw [e]; omega
  have := Go.bitLen_shift (n : Int).toNat j hn'
  rw [e, ← bl_eq (show a.toNat < 2 ^ 64 by omega)] at this
  omega
theorem btn_le {a : Int} (h : 0 ≤ a ∧ a < 18446744073709551616) : Lib.bitLen a.toNat ≤ 64 := Lib.bitLen_le a.toNat 64 (by decide) (by omega)
theorem wr_small {z : Int} (h : 0 ≤ z) (k : z ≤ 1000) : IntKind.i64.wrap z = z := Go.IntWalk.i64_in z (by omega)
theorem Bits_v (x c : Int) (hc : btn x = c) (ix : InI x) (w : World) :
    Calls Tryd.prog 19 #[wI x] w fun e w' => e = .returned (.int .i64 c) ∧ Below w.heap.size w w' := by
  obtain ⟨s0, s1⟩ := sz_in2 ix
  have hs : ∀ w, Calls Tryd.prog 28 #[wI x] w fun e w' => e = .returned (.agg #[.int .u64 (wd0 (sz x)), .int .u64 (wd1 (sz x)), .int .u64 (wd2 (sz x)), .int .u64 (wd3 (sz x))]) ∧ Below w.heap.size w w' := fun w => size_any x w
  unfold btn at hc
  generalize sz x = s at *
  have q0 : wd0 s = s % b64 := rfl
  have q1 : wd1 s = s / b64 % b64 := rfl
  have q2 : wd2 s = s / b128 % b64 := rfl
  have q3 : wd3 s = s / b192 % b64 := rfl
  unfold b64 b128 b192 b255 at *
  by_cases n3 : wd3 s = 0
  · rw [n3] at hs
    by_cases n2 : wd2 s = 0
    · rw [n2] at hs
      by_cases n1 : wd1 s = 0
      · rw [n1] at hs
        by_cases n0 : wd0 s = 0
        · rw [n0] at hs
          have : s = 0 := by omega
          subst this
          have e : c = 0 := by rw [← hc]; decide
          rw [e]
          exact Bits_z x w hs
        · have e : wd0 s = s := by omega
          have l := btn_le (a := wd0 s) (by omega)
          refine Bits_0 x (wd0 s) n0 (by omega) c ?_ w hs
          rw [wr_small (by omega) (by omega), ← hc, e, bl_eq (by omega)]
      · have e := btn_hi (j := 64) (J := 18446744073709551616) (a := wd1 s) s0 (by decide) (by omega) n1 (by omega)
        have l := btn_le (a := wd1 s) (by omega)
        refine Bits_1 x (wd0 s) (wd1 s) n1 (by omega) c ?_ w hs
        rw [wr_small (by omega) (by omega), ← hc, e]
        rfl
    · have e := btn_hi (j := 128) (J := 340282366920938463463374607431768211456) (a := wd2 s) s0 (by decide) (by omega) n2 (by omega)
      have l := btn_le (a := wd2 s) (by omega)
      refine Bits_2 x (wd0 s) (wd1 s) (wd2 s) n2 (by omega) c ?_ w hs
      rw [wr_small (by omega) (by omega), ← hc, e]
      rfl
  · have e := btn_hi (j := 192) (J := 6277101735386680763835789423207666416102355444464034512896) (a := wd3 s) s0 (by decide) (by omega) n3 (by omega)
    have l := btn_le (a := wd3 s) (by omega)
    refine Bits_3 x (wd0 s) (wd1 s) (wd2 s) (wd3 s) n3 (by omega) c ?_ w hs
    rw [wr_small (by omega) (by omega), ← hc, e]
    rfl
end Go.Proofs.YtcfiemeknocgjaaDoor

namespace Go.Proofs.YtcfiemeknocgjaaDoor
open Go.RowKit

theorem k_world {K : Act → World → Prop} {a : Act} {w : World} (h : ∀ W, W = w → K a W) : K a w := h w rfl
theorem sqn (m : Int) : 0 ≤ m * m := by
  rcases Int.le_total 0 m with h | h
  · exact Int.mul_nonneg h h
  · have := Int.mul_nonneg (show 0 ≤ -m by omega) (show 0 ≤ -m by omega)
    rwa [Int.neg_mul_neg] at this
end Go.Proofs.YtcfiemeknocgjaaDoor

namespace Go.Proofs.YtcfiemeknocgjaaDoor
open Go.RowKit

def nga (x : Int) : Bool := decide (x < 0)
theorem ng_v (x : Int) (b : Bool) (h : nga x = b) (ix : InI x) (w : World) : Calls Tryd.prog 33 #[wI x] w fun e w' => e = .returned (.bool b) ∧ Below w.heap.size w w' :=
  negative_is x b ((ng_in ix).trans h) w

/-- the root, by halves -/
def rtB (a : Int) : Nat → Int → Int → Int
  | 0, l, _ => l
  | n + 1, l, h => if (l + h) / 2 * ((l + h) / 2) ≤ a then rtB a n ((l + h) / 2) h else rtB a n l ((l + h) / 2)
def IsRt (a r : Int) : Prop := 0 ≤ r ∧ r * r ≤ a ∧ a < (r + 1) * (r + 1)
theorem rtB_is (a : Int) : ∀ (n : Nat) (l h : Int), 0 ≤ l → l < h → h - l ≤ 2 ^ n → l * l ≤ a → a < h * h → IsRt a (rtB a n l h) := by
  intro n
  induction n with
  | zero =>
    intro l h h0 h1 h2 h3 h4
    have e : h = l + 1 := by simp at h2; omega
    subst e
    exact ⟨h0, h3, h4⟩
  | succ n ih =>
    intro l h h0 h1 h2 h3 h4
    have h2' : h - l ≤ 2 * 2 ^ n := by rw [Int.pow_succ] at h2; omega
    by_cases e : h = l + 1
    · have e2 : (l + h) / 2 = l := by omega
      unfold rtB
      rw [e2, if_pos h3]
      subst e
      have hp : (0 : Int) < 2 ^ n := Int.pow_pos (by decide)
      exact ih l (l + 1) h0 h1 (by omega) h3 h4
    · unfold rtB
      split
      · rename_i g; exact ih _ h (by omega) (by omega) (by omega) g h4
      · rename_i g; exact ih l _ h0 (by omega) (by omega) h3 (by omega)
theorem sq_le {m r : Int} (h0 : 0 ≤ m) (h : m ≤ r) : m * m ≤ r * r := Int.mul_le_mul h h h0 (by omega)
theorem rt_le {a r m : Int} (h : IsRt a r) (hm : 0 ≤ m) : m * m ≤ a ↔ m ≤ r := by
  obtain ⟨h0, h1, h2⟩ := h
  constructor
  · intro k
    rcases Int.lt_or_le r m with g | g
    · have := sq_le (show 0 ≤ r + 1 by omega) (show r + 1 ≤ m by omega); omega
    · exact g
  · intro k; have := sq_le hm k; omega
def rtv (a : Int) : Int := bif decide (a < 0) then 0 else rtB a 128 0 340282366920938463463374607431768211456
def rtk (a : Int) : Bool := bif decide (a < 0) then false else true
theorem rtv_is {a : Int} (h : InI a) (h0 : 0 ≤ a) : IsRt a (rtv a) := by
  unfold rtv
  rw [decide_eq_false (show ¬ a < 0 by omega)]
  exact rtB_is a 128 0 _ (by decide) (by decide) (by decide) (by omega) (by unfold InI b255 at h; omega)
/-- where the search stands -/
def RtI (a r l h : Int) : Prop := IsRt a r ∧ 0 ≤ l ∧ l ≤ r ∧ r < h ∧ h ≤ 340282366920938463463374607431768211456
theorem RtI.begin {a r : Int} (h : IsRt a r) (ia : InI a) : RtI a r 0 340282366920938463463374607431768211456 := by
  refine ⟨h, by omega, h.1, ?_, by omega⟩
  have := (rt_le h (m := 340282366920938463463374607431768211456) (by omega)).2
  unfold InI b255 at ia
  omega
theorem RtI.step {a r l h m : Int} (k : RtI a r l h) (e : (l + h) / 2 = m) (hm : eq4 (wd0 m) (wd1 m) (wd2 m) (wd3 m) (wd0 l) (wd1 l) (wd2 l) (wd3 l) = false) : l < m ∧ m < h := by
  obtain ⟨k1, k2, k3, k4, k5⟩ := k
  have : m ≠ l := fun g => by
    subst g
    have e2 : eq4 (wd0 m) (wd1 m) (wd2 m) (wd3 m) (wd0 m) (wd1 m) (wd2 m) (wd3 m) = decide (m % b256 = m % b256) := eq4_wd m m
    rw [e2] at hm; simp at hm
  omega
theorem RtI.p {a r l h : Int} (k : RtI a r l h) : 0 ≤ l ∧ 0 ≤ h ∧ l + h < b256 := by obtain ⟨_, _, _, _, _⟩ := k; unfold b256; omega
theorem RtI.il {a r l h : Int} (k : RtI a r l h) : InI l := by obtain ⟨_, _, _, _, _⟩ := k; unfold InI b255; omega
theorem RtI.ih {a r l h : Int} (k : RtI a r l h) : InI h := by obtain ⟨_, _, _, _, _⟩ := k; unfold InI b255; omega
theorem RtI.im {a r l h m : Int} (k : RtI a r l h) (e : (l + h) / 2 = m) : InI m := by obtain ⟨_, _, _, _, _⟩ := k; unfold InI b255; omega
theorem RtI.low {a r l h m : Int} (k : RtI a r l h) (e : (l + h) / 2 = m) (hm : m * m ≤ a) : RtI a r m h := by
  obtain ⟨k1, k2, k3, k4, k5⟩ := k
  exact ⟨k1, by omega, (rt_le k1 (by omega)).1 hm, k4, k5⟩
theorem RtI.high {a r l h m : Int} (k : RtI a r l h) (e : (l + h) / 2 = m) (hm : ¬ m * m ≤ a) : RtI a r l m := by
  obtain ⟨k1, k2, k3, k4, k5⟩ := k
  have := mt (rt_le k1 (by omega : 0 ≤ m)).2 hm
  exact ⟨k1, by omega, k3, by omega, by omega⟩
theorem RtI.fin {a r l h m : Int} (k : RtI a r l h) (e : (l + h) / 2 = m) (hm : eq4 (wd0 m) (wd1 m) (wd2 m) (wd3 m) (wd0 l) (wd1 l) (wd2 l) (wd3 l) = true) : l = r := by
  have k' := k
  obtain ⟨k1, k2, k3, k4, k5⟩ := k
  have e2 : eq4 (wd0 m) (wd1 m) (wd2 m) (wd3 m) (wd0 l) (wd1 l) (wd2 l) (wd3 l) = decide (m % b256 = l % b256) := eq4_wd m l
  rw [e2] at hm
  have := of_decide_eq_true hm
  have hp := k'.p
  unfold b256 at *
  omega
theorem blk_eq {w : World} {b : Nat} {c c' : Array Value} {t : TypeId} (h : Blk w b c t) (e : c = c') : Blk w b c' t := e ▸ h
theorem hpp {x y : Int} (h : 0 ≤ x ∧ 0 ≤ y ∧ x + y < b256) : 0 ≤ x + y ∧ x + y < b256 := ⟨by omega, h.2.2⟩
theorem plus_v (x y : Int) (h : 0 ≤ x ∧ 0 ≤ y ∧ x + y < b256) (w : World) : Calls Tryd.prog 34 #[wI x, wI y, .int .u64 0] w fun e w' => e = .returned (wI (x + y)) ∧ Below w.heap.size w w' := by
  have := plus_any x y 0 w (by omega) (by omega)
  rw [Int.add_zero] at this
  exact this
theorem halved_v (x m : Int) (e : x / 2 = m) (h : 0 ≤ x ∧ x < b256) (w : World) : Calls Tryd.prog 43 #[wI x] w fun e w' => e = .returned (wI m) ∧ Below w.heap.size w w' := e ▸ halved_any x h.1 h.2 w
theorem ok_sq {m : Int} : okI (m * m) = false → ∀ a, InI a → ¬ m * m ≤ a := fun h a ia k => by
  have h0 : 0 ≤ m * m := sqn m
  unfold okI at h
  have := of_decide_eq_false h
  unfold InI b255 at *; omega
theorem mulv_okb {x y p : Int} (h : okI (x * y) = true) (e : mulv x y = p) : x * y = p := by rw [← e]; unfold mulv; rw [h]; rfl
theorem cmp_le_iff {x y c : Int} (h : cmpI x y = c) : c ≤ 0 ↔ x ≤ y := by
  rw [← h]
  rcases Int.lt_trichotomy x y with g | g | g
  · rw [cmpI_lt g]; omega
  · rw [g, cmpI_eq]; omega
  · rw [cmpI_gt g]; omega

set_option maxRecDepth 100000 in
set_option maxHeartbeats 4000000 in

theorem Root_0 (a : Int)  (R0 : Int) (R1 : Bool) (hR0 : (fun _ => 0) a = R0) (hR1 : (fun _ => false) a = R1) (hP0 : nga a = true) (_ia : InI a)  (w : World)  :
    Calls Tryd.prog 22 #[.agg #[.int .u64 (wd0 a), .int .u64 (wd1 a), .int .u64 (wd2 a), .int .u64 (wd3 a)]] w fun e w' => e = .returned (.tuple #[.agg #[.int .u64 (wd0 R0), .int .u64 (wd1 R0), .int .u64 (wd2 R0), .int .u64 (wd3 R0)], .bool R1]) ∧ Below w.heap.size w w' := by

  have HP0 := Lib.hid hP0
  clear hP0
  have HR0 := Lib.hid hR0
  clear hR0
  have HR1 := Lib.hid hR1
  clear hR1
  go_enter Tryd.func22, Tryd.ntmps22
  go_wp2_with fail
  first | refine calls_w ?_ | refine name_world ?_ | refine list_world ?_ | refine post_world ?_
  intro V1 hV1
  have hn : Below w.heap.size w V1 := by rw [hV1]; exact below_a2 _ _ _
  have nhb0 := hn
  have k1 : Blk V1 w.heap.size #[.int .u64 (wd0 a), .int .u64 (wd1 a), .int .u64 (wd2 a), .int .u64 (wd3 a)] 24 := by rw [hV1]; exact ((Blk.new _ _ _).alloc _)
  have k2 : Blk V1 (w.heap.size + 1) #[.int .u64 0, .int .u64 0, .int .u64 0, .int .u64 0] 24 := by rw [hV1]; exact (Blk.new1 _ _ _ _)
  clear hV1
  have hb0 := nhb0
  clear nhb0
  refine (ng_v a true HP0.out _ia _).mono ?_
  rintro e U2 ⟨rfl, hn⟩
  replace k1 := k1.of hn
  replace k2 := k2.of hn
  replace hb0 := hb0.trans (hn.mono hb0.size)
  clear hn
  have c2_0 : U2.cell? ⟨(w.heap.size + 1), 0, none⟩ = some (.int .u64 0) := k2.cell 0
  have c2_1 : U2.cell? ⟨(w.heap.size + 1), 1, none⟩ = some (.int .u64 0) := k2.cell 1
  have c2_2 : U2.cell? ⟨(w.heap.size + 1), 2, none⟩ = some (.int .u64 0) := k2.cell 2
  have c2_3 : U2.cell? ⟨(w.heap.size + 1), 3, none⟩ = some (.int .u64 0) := k2.cell 3
  have f2_0 := k2.free 0
  have f2_1 := k2.free 1
  have f2_2 := k2.free 2
  have f2_3 := k2.free 3
  have l2 := k2.lt
  have e0 : 0 = R0 := by rw [← HR0.out]; (try rw [HP0.out]); all_goals first | rfl | simp
  have e1 : false = R1 := by rw [← HR1.out]; (try rw [HP0.out]); all_goals first | rfl | simp
  subst e0
  subst e1
  go_wp2
  clear c2_0 c2_1 c2_2 c2_3 f2_0 f2_1 f2_2 f2_3 l2
  first | refine post_world ?_
  intro V3 hV3
  have D1 := Lib.hid k1.lt
  have D2 := Lib.hid k2.lt
  have D3 := Lib.hid hb0.size
  clear k1
  have nk2 : Blk V3 (w.heap.size + 1) #[.int .u64 0, .int .u64 0, .int .u64 0, .int .u64 0] 24 := by rw [hV3]; exact (blk_full _ [.int .u64 0, .int .u64 0, .int .u64 0, .int .u64 0] k2 rfl)
  have nhb0 : Below w.heap.size w V3 := by rw [hV3]; exact (blw_setL hb0 (by omega) 0 [.int .u64 0, .int .u64 0, .int .u64 0, .int .u64 0])
  clear k2
  clear hb0
  clear hV3
  have k2 := nk2
  clear nk2
  have hb0 := nhb0
  clear nhb0
  have g2_0 : V3.cell? ⟨(w.heap.size + 1), 0, none⟩ = some (.int .u64 0) := k2.cell 0
  have g2_1 : V3.cell? ⟨(w.heap.size + 1), 1, none⟩ = some (.int .u64 0) := k2.cell 1
  have g2_2 : V3.cell? ⟨(w.heap.size + 1), 2, none⟩ = some (.int .u64 0) := k2.cell 2
  have g2_3 : V3.cell? ⟨(w.heap.size + 1), 3, none⟩ = some (.int .u64 0) := k2.cell 3
  clear k2
  simp [bodyPost, results, Tryd.results22, go_sem, g2_0, g2_1, g2_2, g2_3, wd0_0, wd1_0, wd2_0, wd3_0]
  first | exact hb0 | exact ⟨rfl, hb0⟩

set_option maxRecDepth 100000 in
set_option maxHeartbeats 4000000 in

theorem Root_1 (a : Int)  (R0 : Int) (R1 : Bool) (hR0 : (fun _ => rtv a) a = R0) (hR1 : (fun _ => true) a = R1) (hP0 : nga a = false) (_irt : IsRt a (rtv a)) (_ia : InI a)  (w : World)  :
    Calls Tryd.prog 22 #[.agg #[.int .u64 (wd0 a), .int .u64 (wd1 a), .int .u64 (wd2 a), .int .u64 (wd3 a)]] w fun e w' => e = .returned (.tuple #[.agg #[.int .u64 (wd0 R0), .int .u64 (wd1 R0), .int .u64 (wd2 R0), .int .u64 (wd3 R0)], .bool R1]) ∧ Below w.heap.size w w' := by

  have HP0 := Lib.hid hP0
  clear hP0
  have HR0 := Lib.hid hR0
  clear hR0
  have HR1 := Lib.hid hR1
  clear hR1
  go_enter Tryd.func22, Tryd.ntmps22
  go_wp2_with fail
  first | refine calls_w ?_ | refine name_world ?_ | refine list_world ?_ | refine post_world ?_
  intro V1 hV1
  have hn : Below w.heap.size w V1 := by rw [hV1]; exact below_a2 _ _ _
  have nhb0 := hn
  have k1 : Blk V1 w.heap.size #[.int .u64 (wd0 a), .int .u64 (wd1 a), .int .u64 (wd2 a), .int .u64 (wd3 a)] 24 := by rw [hV1]; exact ((Blk.new _ _ _).alloc _)
  have k2 : Blk V1 (w.heap.size + 1) #[.int .u64 0, .int .u64 0, .int .u64 0, .int .u64 0] 24 := by rw [hV1]; exact (Blk.new1 _ _ _ _)
  clear hV1
  have hb0 := nhb0
  clear nhb0
  refine (ng_v a false HP0.out _ia _).mono ?_
  rintro e U2 ⟨rfl, hn⟩
  replace k1 := k1.of hn
  replace k2 := k2.of hn
  replace hb0 := hb0.trans (hn.mono hb0.size)
  clear hn
  go_wp2_with fail
  first | refine name_world ?_
  intro V3 hV3
  have D1 := Lib.hid k1.lt
  have D2 := Lib.hid k2.lt
  have D3 := Lib.hid hb0.size
  have hn : Below U2.heap.size U2 V3 := by rw [hV3]; exact below_a2 _ _ _
  have nk1 := k1.of hn
  have nk2 := k2.of hn
  have nhb0 := hb0.trans (hn.mono hb0.size)
  clear hn
  have k3 : Blk V3 U2.heap.size #[.int .u64 0, .int .u64 0, .int .u64 0, .int .u64 0] 24 := by rw [hV3]; exact ((Blk.new _ _ _).alloc _)
  have k4 : Blk V3 (U2.heap.size + 1) #[.int .u64 0, .int .u64 0, .int .u64 1, .int .u64 0] 24 := by rw [hV3]; exact (Blk.new1 _ _ _ _)
  clear k1 k2
  clear hb0
  clear hV3
  have k1 := nk1
  clear nk1
  have k2 := nk2
  clear nk2
  have hb0 := nhb0
  clear nhb0
  go_loopg [] (340282366920938463463374607431768211456 : Nat) (fun gk_  wr => ∃ (l : Int) (h : Int), Hid (RtI a (rtv a) l h ∧ h - l ≤ (gk_ : Int)) ∧ Blk wr w.heap.size #[.int .u64 (wd0 a), .int .u64 (wd1 a), .int .u64 (wd2 a), .int .u64 (wd3 a)] 24 ∧ Blk wr (w.heap.size + 1) #[.int .u64 0, .int .u64 0, .int .u64 0, .int .u64 0] 24 ∧ Blk wr U2.heap.size #[.int .u64 (wd0 l), .int .u64 (wd1 l), .int .u64 (wd2 l), .int .u64 (wd3 l)] 24 ∧ Blk wr (U2.heap.size + 1) #[.int .u64 (wd0 h), .int .u64 (wd1 h), .int .u64 (wd2 h), .int .u64 (wd3 h)] 24 ∧ Below w.heap.size w wr)
  case atStart =>
    have HIn : RtI a (rtv a) 0 340282366920938463463374607431768211456 ∧ 340282366920938463463374607431768211456 - 0 ≤ ((340282366920938463463374607431768211456 : Nat) : Int) := by
      exact ⟨RtI.begin _irt _ia, by decide⟩
    exact ⟨0, 340282366920938463463374607431768211456, Lib.hid HIn, k1, k2, (blk_eq k3 (by kernel_rfl)), (blk_eq k4 (by kernel_rfl)), hb0⟩
  case round =>
    rename World => W1_
    rename Nat => gk1
    clear k1 k2 k3 k4
    clear hb0
    obtain ⟨l, h, HI1, k1, k2, k3, k4, hb0⟩ := hrel
    have c3_0 : W1_.cell? ⟨U2.heap.size, 0, none⟩ = some (.int .u64 (wd0 l)) := k3.cell 0
    have c3_1 : W1_.cell? ⟨U2.heap.size, 1, none⟩ = some (.int .u64 (wd1 l)) := k3.cell 1
    have c3_2 : W1_.cell? ⟨U2.heap.size, 2, none⟩ = some (.int .u64 (wd2 l)) := k3.cell 2
    have c3_3 : W1_.cell? ⟨U2.heap.size, 3, none⟩ = some (.int .u64 (wd3 l)) := k3.cell 3
    have l3 := k3.lt
    have c4_0 : W1_.cell? ⟨(U2.heap.size + 1), 0, none⟩ = some (.int .u64 (wd0 h)) := k4.cell 0
    have c4_1 : W1_.cell? ⟨(U2.heap.size + 1), 1, none⟩ = some (.int .u64 (wd1 h)) := k4.cell 1
    have c4_2 : W1_.cell? ⟨(U2.heap.size + 1), 2, none⟩ = some (.int .u64 (wd2 h)) := k4.cell 2
    have c4_3 : W1_.cell? ⟨(U2.heap.size + 1), 3, none⟩ = some (.int .u64 (wd3 h)) := k4.cell 3
    have l4 := k4.lt
    go_wp2_with fail
    clear c3_0 c3_1 c3_2 c3_3 l3 c4_0 c4_1 c4_2 c4_3 l4
    refine (args_eq (a' := #[.agg #[.int .u64 (wd0 l), .int .u64 (wd1 l), .int .u64 (wd2 l), .int .u64 (wd3 l)], .agg #[.int .u64 (wd0 h), .int .u64 (wd1 h), .int .u64 (wd2 h), .int .u64 (wd3 h)], .int .u64 0]) (plus_v l h HI1.out.1.p _) (by kernel_rfl)).mono ?_
    rintro e U4 ⟨rfl, hn⟩
    replace k1 := k1.of hn
    replace k2 := k2.of hn
    replace k3 := k3.of hn
    replace k4 := k4.of hn
    replace hb0 := hb0.trans (hn.mono hb0.size)
    clear hn
    go_wp2_with fail
    obtain ⟨r1, hr1⟩ : ∃ o_o : Int, (l + h) / 2 = o_o := ⟨_, rfl⟩
    have Hr1 := Lib.hid hr1
    clear hr1
    refine (halved_v (l + h) r1 Hr1.out (hpp HI1.out.1.p) _).mono ?_
    rintro e U5 ⟨rfl, hn⟩
    replace k1 := k1.of hn
    replace k2 := k2.of hn
    replace k3 := k3.of hn
    replace k4 := k4.of hn
    replace hb0 := hb0.trans (hn.mono hb0.size)
    clear hn
    obtain ⟨z2, hz2⟩ : ∃ o_o : Bool, eq4 (wd0 r1) (wd1 r1) (wd2 r1) (wd3 r1) (wd0 l) (wd1 l) (wd2 l) (wd3 l) = o_o := ⟨_, rfl⟩
    cases z2
    · have c3_0 : U5.cell? ⟨U2.heap.size, 0, none⟩ = some (.int .u64 (wd0 l)) := k3.cell 0
      have c3_1 : U5.cell? ⟨U2.heap.size, 1, none⟩ = some (.int .u64 (wd1 l)) := k3.cell 1
      have c3_2 : U5.cell? ⟨U2.heap.size, 2, none⟩ = some (.int .u64 (wd2 l)) := k3.cell 2
      have c3_3 : U5.cell? ⟨U2.heap.size, 3, none⟩ = some (.int .u64 (wd3 l)) := k3.cell 3
      have l3 := k3.lt
      go_wp2_with fail
      clear c3_0 c3_1 c3_2 c3_3 l3
      first | refine calls_w ?_ | refine name_world ?_ | refine list_world ?_ | refine post_world ?_
      intro V6 hV6
      have D4 := Lib.hid k1.lt
      have D5 := Lib.hid k2.lt
      have D6 := Lib.hid k3.lt
      have D7 := Lib.hid k4.lt
      have D8 := Lib.hid hb0.size
      have hn : Below U5.heap.size U5 V6 := by rw [hV6]; exact below_a1 _ _
      have nk1 := k1.of hn
      have nk2 := k2.of hn
      have nk3 := k3.of hn
      have nk4 := k4.of hn
      have nhb0 := hb0.trans (hn.mono hb0.size)
      clear hn
      have k6 : Blk V6 U5.heap.size #[.int .u64 (wd0 r1), .int .u64 (wd1 r1), .int .u64 (wd2 r1), .int .u64 (wd3 r1)] 24 := by rw [hV6]; exact (Blk.new _ _ _)
      clear k1 k2 k3 k4
      clear hb0
      clear hV6
      have k1 := nk1
      clear nk1
      have k2 := nk2
      clear nk2
      have k3 := nk3
      clear nk3
      have k4 := nk4
      clear nk4
      have hb0 := nhb0
      clear nhb0
      obtain ⟨r3, hr3⟩ : ∃ o_o : Int, mulv r1 r1 = o_o := ⟨_, rfl⟩
      have Hr3 := Lib.hid hr3
      clear hr3
      obtain ⟨z4, hz4⟩ : ∃ o_o : Bool, okI (r1 * r1) = o_o := ⟨_, rfl⟩
      have Hz4 := Lib.hid hz4
      clear hz4
      refine (Mul_v r1 r1 r3 z4 Hr3.out Hz4.out (HI1.out.1.im Hr1.out) (HI1.out.1.im Hr1.out) _).mono ?_
      rintro e U7 ⟨rfl, hn⟩
      replace k1 := k1.of hn
      replace k2 := k2.of hn
      replace k3 := k3.of hn
      replace k4 := k4.of hn
      replace k6 := k6.of hn
      replace hb0 := hb0.trans (hn.mono hb0.size)
      clear hn
      cases z4
      · have c4_0 : U7.cell? ⟨(U2.heap.size + 1), 0, none⟩ = some (.int .u64 (wd0 h)) := k4.cell 0
        have c4_1 : U7.cell? ⟨(U2.heap.size + 1), 1, none⟩ = some (.int .u64 (wd1 h)) := k4.cell 1
        have c4_2 : U7.cell? ⟨(U2.heap.size + 1), 2, none⟩ = some (.int .u64 (wd2 h)) := k4.cell 2
        have c4_3 : U7.cell? ⟨(U2.heap.size + 1), 3, none⟩ = some (.int .u64 (wd3 h)) := k4.cell 3
        have f4_0 := k4.free 0
        have f4_1 := k4.free 1
        have f4_2 := k4.free 2
        have f4_3 := k4.free 3
        have l4 := k4.lt
        have l4_0 : U2.heap.size < U7.heap.size := by have := k4.lt; omega
        have c6_0 : U7.cell? ⟨U5.heap.size, 0, none⟩ = some (.int .u64 (wd0 r1)) := k6.cell 0
        have c6_1 : U7.cell? ⟨U5.heap.size, 1, none⟩ = some (.int .u64 (wd1 r1)) := k6.cell 1
        have c6_2 : U7.cell? ⟨U5.heap.size, 2, none⟩ = some (.int .u64 (wd2 r1)) := k6.cell 2
        have c6_3 : U7.cell? ⟨U5.heap.size, 3, none⟩ = some (.int .u64 (wd3 r1)) := k6.cell 3
        have l6 := k6.lt
        have p6_4 : U5.heap.size ≠ (U2.heap.size + 1) := (by have := D7.out; omega)
        go_wp2_with fail
        clear c4_0 c4_1 c4_2 c4_3 f4_0 f4_1 f4_2 f4_3 l4 l4_0 c6_0 c6_1 c6_2 c6_3 l6 p6_4
        first | refine k_world ?_
        intro V8 hV8
        have D9 := Lib.hid k1.lt
        have D10 := Lib.hid k2.lt
        have D11 := Lib.hid k3.lt
        have D12 := Lib.hid k4.lt
        have D13 := Lib.hid k6.lt
        have D14 := Lib.hid hb0.size
        have nk1 : Blk V8 w.heap.size #[.int .u64 (wd0 a), .int .u64 (wd1 a), .int .u64 (wd2 a), .int .u64 (wd3 a)] 24 := by rw [hV8]; exact ((blk_setL k1 (by have := D1.out; omega) 0 [.int .u64 (wd0 r1), .int .u64 (wd1 r1), .int .u64 (wd2 r1), .int .u64 (wd3 r1)]).alloc _)
        have nk2 : Blk V8 (w.heap.size + 1) #[.int .u64 0, .int .u64 0, .int .u64 0, .int .u64 0] 24 := by rw [hV8]; exact ((blk_setL k2 (by have := D2.out; omega) 0 [.int .u64 (wd0 r1), .int .u64 (wd1 r1), .int .u64 (wd2 r1), .int .u64 (wd3 r1)]).alloc _)
        have nk3 : Blk V8 U2.heap.size #[.int .u64 (wd0 l), .int .u64 (wd1 l), .int .u64 (wd2 l), .int .u64 (wd3 l)] 24 := by rw [hV8]; exact ((blk_setL k3 (by omega) 0 [.int .u64 (wd0 r1), .int .u64 (wd1 r1), .int .u64 (wd2 r1), .int .u64 (wd3 r1)]).alloc _)
        have nk4 : Blk V8 (U2.heap.size + 1) #[.int .u64 (wd0 r1), .int .u64 (wd1 r1), .int .u64 (wd2 r1), .int .u64 (wd3 r1)] 24 := by rw [hV8]; exact ((blk_full _ [.int .u64 (wd0 r1), .int .u64 (wd1 r1), .int .u64 (wd2 r1), .int .u64 (wd3 r1)] k4 rfl).alloc _)
        have nk6 : Blk V8 U5.heap.size #[.int .u64 (wd0 r1), .int .u64 (wd1 r1), .int .u64 (wd2 r1), .int .u64 (wd3 r1)] 24 := by rw [hV8]; exact ((blk_setL k6 (by have := D7.out; omega) 0 [.int .u64 (wd0 r1), .int .u64 (wd1 r1), .int .u64 (wd2 r1), .int .u64 (wd3 r1)]).alloc _)
        have nhb0 : Below w.heap.size w V8 := by rw [hV8]; exact (blw_al (blw_setL hb0 (by have := D3.out; omega) 0 [.int .u64 (wd0 r1), .int .u64 (wd1 r1), .int .u64 (wd2 r1), .int .u64 (wd3 r1)]) _)
        have k8 : Blk V8 U7.heap.size #[.int .u64 (wd0 r3), .int .u64 (wd1 r3), .int .u64 (wd2 r3), .int .u64 (wd3 r3)] 24 := by rw [hV8]; exact (Blk.newAt _ _ (by simp [size_setL]) _ _)
        clear k1 k2 k3 k4 k6
        clear hb0
        clear hV8
        have k1 := nk1
        clear nk1
        have k2 := nk2
        clear nk2
        have k3 := nk3
        clear nk3
        have k4 := nk4
        clear nk4
        have k6 := nk6
        clear nk6
        have hb0 := nhb0
        clear nhb0
        have HIn : RtI a (rtv a) l r1 ∧ r1 - l ≤ (((r1 - l).toNat) : Int) := by
          have fin : RtI a (rtv a) l r1 := by
            first
              | exact HI1.out.1.high Hr1.out (ok_sq Hz4.out _ _ia)
              | exact HI1.out.1.high Hr1.out (fun g => of_decide_eq_false hz6 ((cmp_le_iff Hr5.out).2 (by rw [← mulv_okb Hz4.out Hr3.out]; exact g)))
              | exact HI1.out.1.low Hr1.out (by rw [mulv_okb Hz4.out Hr3.out]; exact (cmp_le_iff Hr5.out).1 (of_decide_eq_true hz6))
          exact ⟨fin, by omega⟩
        go_roundg ((r1 - l).toNat)
        case measure =>
          have q_ := HI1.out.1.step Hr1.out hz2
          have q2_ := HI1.out.2
          omega
        case rel => exact ⟨l, r1, Lib.hid HIn, k1, k2, k3, k4, hb0⟩
      · have c1_0 : U7.cell? ⟨w.heap.size, 0, none⟩ = some (.int .u64 (wd0 a)) := k1.cell 0
        have c1_1 : U7.cell? ⟨w.heap.size, 1, none⟩ = some (.int .u64 (wd1 a)) := k1.cell 1
        have c1_2 : U7.cell? ⟨w.heap.size, 2, none⟩ = some (.int .u64 (wd2 a)) := k1.cell 2
        have c1_3 : U7.cell? ⟨w.heap.size, 3, none⟩ = some (.int .u64 (wd3 a)) := k1.cell 3
        have l1 := k1.lt
        go_wp2_with fail
        clear c1_0 c1_1 c1_2 c1_3 l1
        first | refine calls_w ?_ | refine name_world ?_ | refine list_world ?_ | refine post_world ?_
        intro V9 hV9
        have D15 := Lib.hid k1.lt
        have D16 := Lib.hid k2.lt
        have D17 := Lib.hid k3.lt
        have D18 := Lib.hid k4.lt
        have D19 := Lib.hid k6.lt
        have D20 := Lib.hid hb0.size
        have hn : Below U7.heap.size U7 V9 := by rw [hV9]; exact below_a1 _ _
        have nk1 := k1.of hn
        have nk2 := k2.of hn
        have nk3 := k3.of hn
        have nk4 := k4.of hn
        have nk6 := k6.of hn
        have nhb0 := hb0.trans (hn.mono hb0.size)
        clear hn
        have k9 : Blk V9 U7.heap.size #[.int .u64 (wd0 r3), .int .u64 (wd1 r3), .int .u64 (wd2 r3), .int .u64 (wd3 r3)] 24 := by rw [hV9]; exact (Blk.new _ _ _)
        clear k1 k2 k3 k4 k6
        clear hb0
        clear hV9
        have k1 := nk1
        clear nk1
        have k2 := nk2
        clear nk2
        have k3 := nk3
        clear nk3
        have k4 := nk4
        clear nk4
        have k6 := nk6
        clear nk6
        have hb0 := nhb0
        clear nhb0
        obtain ⟨r5, hr5⟩ : ∃ o_o : Int, cmpI r3 a = o_o := ⟨_, rfl⟩
        have Hr5 := Lib.hid hr5
        clear hr5
        refine (Cmp_v r3 a r5 Hr5.out (Hr3.out ▸ mulv_in _ _) _ia _).mono ?_
        rintro e U10 ⟨rfl, hn⟩
        replace k1 := k1.of hn
        replace k2 := k2.of hn
        replace k3 := k3.of hn
        replace k4 := k4.of hn
        replace k6 := k6.of hn
        replace k9 := k9.of hn
        replace hb0 := hb0.trans (hn.mono hb0.size)
        clear hn
        obtain ⟨z6, hz6⟩ : ∃ o_o : Bool, decide (r5 ≤ 0) = o_o := ⟨_, rfl⟩
        cases z6
        · have c4_0 : U10.cell? ⟨(U2.heap.size + 1), 0, none⟩ = some (.int .u64 (wd0 h)) := k4.cell 0
          have c4_1 : U10.cell? ⟨(U2.heap.size + 1), 1, none⟩ = some (.int .u64 (wd1 h)) := k4.cell 1
          have c4_2 : U10.cell? ⟨(U2.heap.size + 1), 2, none⟩ = some (.int .u64 (wd2 h)) := k4.cell 2
          have c4_3 : U10.cell? ⟨(U2.heap.size + 1), 3, none⟩ = some (.int .u64 (wd3 h)) := k4.cell 3
          have f4_0 := k4.free 0
          have f4_1 := k4.free 1
          have f4_2 := k4.free 2
          have f4_3 := k4.free 3
          have l4 := k4.lt
          have c6_0 : U10.cell? ⟨U5.heap.size, 0, none⟩ = some (.int .u64 (wd0 r1)) := k6.cell 0
          have c6_1 : U10.cell? ⟨U5.heap.size, 1, none⟩ = some (.int .u64 (wd1 r1)) := k6.cell 1
          have c6_2 : U10.cell? ⟨U5.heap.size, 2, none⟩ = some (.int .u64 (wd2 r1)) := k6.cell 2
          have c6_3 : U10.cell? ⟨U5.heap.size, 3, none⟩ = some (.int .u64 (wd3 r1)) := k6.cell 3
          have l6 := k6.lt
          have p6_4 : U5.heap.size ≠ (U2.heap.size + 1) := (by have := D7.out; omega)
          go_wp2_with fail
          clear c4_0 c4_1 c4_2 c4_3 f4_0 f4_1 f4_2 f4_3 l4 c6_0 c6_1 c6_2 c6_3 l6 p6_4
          first | refine k_world ?_
          intro V11 hV11
          have D21 := Lib.hid k1.lt
          have D22 := Lib.hid k2.lt
          have D23 := Lib.hid k3.lt
          have D24 := Lib.hid k4.lt
          have D25 := Lib.hid k6.lt
          have D26 := Lib.hid k9.lt
          have D27 := Lib.hid hb0.size
          have nk1 : Blk V11 w.heap.size #[.int .u64 (wd0 a), .int .u64 (wd1 a), .int .u64 (wd2 a), .int .u64 (wd3 a)] 24 := by rw [hV11]; exact (blk_setL k1 (by have := D1.out; omega) 0 [.int .u64 (wd0 r1), .int .u64 (wd1 r1), .int .u64 (wd2 r1), .int .u64 (wd3 r1)])
          have nk2 : Blk V11 (w.heap.size + 1) #[.int .u64 0, .int .u64 0, .int .u64 0, .int .u64 0] 24 := by rw [hV11]; exact (blk_setL k2 (by have := D2.out; omega) 0 [.int .u64 (wd0 r1), .int .u64 (wd1 r1), .int .u64 (wd2 r1), .int .u64 (wd3 r1)])
          have nk3 : Blk V11 U2.heap.size #[.int .u64 (wd0 l), .int .u64 (wd1 l), .int .u64 (wd2 l), .int .u64 (wd3 l)] 24 := by rw [hV11]; exact (blk_setL k3 (by omega) 0 [.int .u64 (wd0 r1), .int .u64 (wd1 r1), .int .u64 (wd2 r1), .int .u64 (wd3 r1)])
          have nk4 : Blk V11 (U2.heap.size + 1) #[.int .u64 (wd0 r1), .int .u64 (wd1 r1), .int .u64 (wd2 r1), .int .u64 (wd3 r1)] 24 := by rw [hV11]; exact (blk_full _ [.int .u64 (wd0 r1), .int .u64 (wd1 r1), .int .u64 (wd2 r1), .int .u64 (wd3 r1)] k4 rfl)
          have nk6 : Blk V11 U5.heap.size #[.int .u64 (wd0 r1), .int .u64 (wd1 r1), .int .u64 (wd2 r1), .int .u64 (wd3 r1)] 24 := by rw [hV11]; exact (blk_setL k6 (by have := D7.out; omega) 0 [.int .u64 (wd0 r1), .int .u64 (wd1 r1), .int .u64 (wd2 r1), .int .u64 (wd3 r1)])
          have nk9 : Blk V11 U7.heap.size #[.int .u64 (wd0 r3), .int .u64 (wd1 r3), .int .u64 (wd2 r3), .int .u64 (wd3 r3)] 24 := by rw [hV11]; exact (blk_setL k9 (by have := D18.out; omega) 0 [.int .u64 (wd0 r1), .int .u64 (wd1 r1), .int .u64 (wd2 r1), .int .u64 (wd3 r1)])
          have nhb0 : Below w.heap.size w V11 := by rw [hV11]; exact (blw_setL hb0 (by have := D3.out; omega) 0 [.int .u64 (wd0 r1), .int .u64 (wd1 r1), .int .u64 (wd2 r1), .int .u64 (wd3 r1)])
          clear k1 k2 k3 k4 k6 k9
          clear hb0
          clear hV11
          have k1 := nk1
          clear nk1
          have k2 := nk2
          clear nk2
          have k3 := nk3
          clear nk3
          have k4 := nk4
          clear nk4
          have k6 := nk6
          clear nk6
          have k9 := nk9
          clear nk9
          have hb0 := nhb0
          clear nhb0
          have HIn : RtI a (rtv a) l r1 ∧ r1 - l ≤ (((r1 - l).toNat) : Int) := by
            have fin : RtI a (rtv a) l r1 := by
              first
                | exact HI1.out.1.high Hr1.out (ok_sq Hz4.out _ _ia)
                | exact HI1.out.1.high Hr1.out (fun g => of_decide_eq_false hz6 ((cmp_le_iff Hr5.out).2 (by rw [← mulv_okb Hz4.out Hr3.out]; exact g)))
                | exact HI1.out.1.low Hr1.out (by rw [mulv_okb Hz4.out Hr3.out]; exact (cmp_le_iff Hr5.out).1 (of_decide_eq_true hz6))
            exact ⟨fin, by omega⟩
          go_roundg ((r1 - l).toNat)
          case measure =>
            have q_ := HI1.out.1.step Hr1.out hz2
            have q2_ := HI1.out.2
            omega
          case rel => exact ⟨l, r1, Lib.hid HIn, k1, k2, k3, k4, hb0⟩
        · have c3_0 : U10.cell? ⟨U2.heap.size, 0, none⟩ = some (.int .u64 (wd0 l)) := k3.cell 0
          have c3_1 : U10.cell? ⟨U2.heap.size, 1, none⟩ = some (.int .u64 (wd1 l)) := k3.cell 1
          have c3_2 : U10.cell? ⟨U2.heap.size, 2, none⟩ = some (.int .u64 (wd2 l)) := k3.cell 2
          have c3_3 : U10.cell? ⟨U2.heap.size, 3, none⟩ = some (.int .u64 (wd3 l)) := k3.cell 3
          have f3_0 := k3.free 0
          have f3_1 := k3.free 1
          have f3_2 := k3.free 2
          have f3_3 := k3.free 3
          have l3 := k3.lt
          have c6_0 : U10.cell? ⟨U5.heap.size, 0, none⟩ = some (.int .u64 (wd0 r1)) := k6.cell 0
          have c6_1 : U10.cell? ⟨U5.heap.size, 1, none⟩ = some (.int .u64 (wd1 r1)) := k6.cell 1
          have c6_2 : U10.cell? ⟨U5.heap.size, 2, none⟩ = some (.int .u64 (wd2 r1)) := k6.cell 2
          have c6_3 : U10.cell? ⟨U5.heap.size, 3, none⟩ = some (.int .u64 (wd3 r1)) := k6.cell 3
          have l6 := k6.lt
          have p6_3 : U5.heap.size ≠ U2.heap.size := (by have := D6.out; omega)
          go_wp2_with fail
          clear c3_0 c3_1 c3_2 c3_3 f3_0 f3_1 f3_2 f3_3 l3 c6_0 c6_1 c6_2 c6_3 l6 p6_3
          first | refine k_world ?_
          intro V12 hV12
          have D28 := Lib.hid k1.lt
          have D29 := Lib.hid k2.lt
          have D30 := Lib.hid k3.lt
          have D31 := Lib.hid k4.lt
          have D32 := Lib.hid k6.lt
          have D33 := Lib.hid k9.lt
          have D34 := Lib.hid hb0.size
          have nk1 : Blk V12 w.heap.size #[.int .u64 (wd0 a), .int .u64 (wd1 a), .int .u64 (wd2 a), .int .u64 (wd3 a)] 24 := by rw [hV12]; exact (blk_setL k1 (by have := D1.out; omega) 0 [.int .u64 (wd0 r1), .int .u64 (wd1 r1), .int .u64 (wd2 r1), .int .u64 (wd3 r1)])
          have nk2 : Blk V12 (w.heap.size + 1) #[.int .u64 0, .int .u64 0, .int .u64 0, .int .u64 0] 24 := by rw [hV12]; exact (blk_setL k2 (by have := D2.out; omega) 0 [.int .u64 (wd0 r1), .int .u64 (wd1 r1), .int .u64 (wd2 r1), .int .u64 (wd3 r1)])
          have nk3 : Blk V12 U2.heap.size #[.int .u64 (wd0 r1), .int .u64 (wd1 r1), .int .u64 (wd2 r1), .int .u64 (wd3 r1)] 24 := by rw [hV12]; exact (blk_full _ [.int .u64 (wd0 r1), .int .u64 (wd1 r1), .int .u64 (wd2 r1), .int .u64 (wd3 r1)] k3 rfl)
          have nk4 : Blk V12 (U2.heap.size + 1) #[.int .u64 (wd0 h), .int .u64 (wd1 h), .int .u64 (wd2 h), .int .u64 (wd3 h)] 24 := by rw [hV12]; exact (blk_setL k4 (by omega) 0 [.int .u64 (wd0 r1), .int .u64 (wd1 r1), .int .u64 (wd2 r1), .int .u64 (wd3 r1)])
          have nk6 : Blk V12 U5.heap.size #[.int .u64 (wd0 r1), .int .u64 (wd1 r1), .int .u64 (wd2 r1), .int .u64 (wd3 r1)] 24 := by rw [hV12]; exact (blk_setL k6 (by have := D6.out; omega) 0 [.int .u64 (wd0 r1), .int .u64 (wd1 r1), .int .u64 (wd2 r1), .int .u64 (wd3 r1)])
          have nk9 : Blk V12 U7.heap.size #[.int .u64 (wd0 r3), .int .u64 (wd1 r3), .int .u64 (wd2 r3), .int .u64 (wd3 r3)] 24 := by rw [hV12]; exact (blk_setL k9 (by have := D17.out; omega) 0 [.int .u64 (wd0 r1), .int .u64 (wd1 r1), .int .u64 (wd2 r1), .int .u64 (wd3 r1)])
          have nhb0 : Below w.heap.size w V12 := by rw [hV12]; exact (blw_setL hb0 (by have := D3.out; omega) 0 [.int .u64 (wd0 r1), .int .u64 (wd1 r1), .int .u64 (wd2 r1), .int .u64 (wd3 r1)])
          clear k1 k2 k3 k4 k6 k9
          clear hb0
          clear hV12
          have k1 := nk1
          clear nk1
          have k2 := nk2
          clear nk2
          have k3 := nk3
          clear nk3
          have k4 := nk4
          clear nk4
          have k6 := nk6
          clear nk6
          have k9 := nk9
          clear nk9
          have hb0 := nhb0
          clear nhb0
          have HIn : RtI a (rtv a) r1 h ∧ h - r1 ≤ (((h - r1).toNat) : Int) := by
            have fin : RtI a (rtv a) r1 h := by
              first
                | exact HI1.out.1.high Hr1.out (ok_sq Hz4.out _ _ia)
                | exact HI1.out.1.high Hr1.out (fun g => of_decide_eq_false hz6 ((cmp_le_iff Hr5.out).2 (by rw [← mulv_okb Hz4.out Hr3.out]; exact g)))
                | exact HI1.out.1.low Hr1.out (by rw [mulv_okb Hz4.out Hr3.out]; exact (cmp_le_iff Hr5.out).1 (of_decide_eq_true hz6))
            exact ⟨fin, by omega⟩
          go_roundg ((h - r1).toNat)
          case measure =>
            have q_ := HI1.out.1.step Hr1.out hz2
            have q2_ := HI1.out.2
            omega
          case rel => exact ⟨r1, h, Lib.hid HIn, k1, k2, k3, k4, hb0⟩
    · have c2_0 : U5.cell? ⟨(w.heap.size + 1), 0, none⟩ = some (.int .u64 0) := k2.cell 0
      have c2_1 : U5.cell? ⟨(w.heap.size + 1), 1, none⟩ = some (.int .u64 0) := k2.cell 1
      have c2_2 : U5.cell? ⟨(w.heap.size + 1), 2, none⟩ = some (.int .u64 0) := k2.cell 2
      have c2_3 : U5.cell? ⟨(w.heap.size + 1), 3, none⟩ = some (.int .u64 0) := k2.cell 3
      have f2_0 := k2.free 0
      have f2_1 := k2.free 1
      have f2_2 := k2.free 2
      have f2_3 := k2.free 3
      have l2 := k2.lt
      have l2_0 : w.heap.size < U5.heap.size := by have := k2.lt; omega
      have c3_0 : U5.cell? ⟨U2.heap.size, 0, none⟩ = some (.int .u64 (wd0 l)) := k3.cell 0
      have c3_1 : U5.cell? ⟨U2.heap.size, 1, none⟩ = some (.int .u64 (wd1 l)) := k3.cell 1
      have c3_2 : U5.cell? ⟨U2.heap.size, 2, none⟩ = some (.int .u64 (wd2 l)) := k3.cell 2
      have c3_3 : U5.cell? ⟨U2.heap.size, 3, none⟩ = some (.int .u64 (wd3 l)) := k3.cell 3
      have l3 := k3.lt
      have p3_2 : U2.heap.size ≠ (w.heap.size + 1) := (by have := D2.out; omega)
      have e0 : l = R0 := by rw [← HR0.out]; (exact HI1.out.1.fin Hr1.out hz2)
      have e1 : true = R1 := by rw [← HR1.out]; (try rw [HP0.out]); (try rw [Hr1.out]); (try rw [hz2]); all_goals first | rfl | simp
      subst e0
      subst e1
      go_wp2
      clear c2_0 c2_1 c2_2 c2_3 f2_0 f2_1 f2_2 f2_3 l2 l2_0 c3_0 c3_1 c3_2 c3_3 l3 p3_2
      first | refine post_world ?_
      intro V13 hV13
      have D35 := Lib.hid k1.lt
      have D36 := Lib.hid k2.lt
      have D37 := Lib.hid k3.lt
      have D38 := Lib.hid k4.lt
      have D39 := Lib.hid hb0.size
      clear k1 k3 k4
      have nk2 : Blk V13 (w.heap.size + 1) #[.int .u64 (wd0 l), .int .u64 (wd1 l), .int .u64 (wd2 l), .int .u64 (wd3 l)] 24 := by rw [hV13]; exact ((blk_full _ [.int .u64 (wd0 l), .int .u64 (wd1 l), .int .u64 (wd2 l), .int .u64 (wd3 l)] k2 rfl).alloc _)
      have nhb0 : Below w.heap.size w V13 := by rw [hV13]; exact (blw_al (blw_setL hb0 (by omega) 0 [.int .u64 (wd0 l), .int .u64 (wd1 l), .int .u64 (wd2 l), .int .u64 (wd3 l)]) _)
      clear k2
      clear hb0
      clear hV13
      have k2 := nk2
      clear nk2
      have hb0 := nhb0
      clear nhb0
      have g2_0 : V13.cell? ⟨(w.heap.size + 1), 0, none⟩ = some (.int .u64 (wd0 l)) := k2.cell 0
      have g2_1 : V13.cell? ⟨(w.heap.size + 1), 1, none⟩ = some (.int .u64 (wd1 l)) := k2.cell 1
      have g2_2 : V13.cell? ⟨(w.heap.size + 1), 2, none⟩ = some (.int .u64 (wd2 l)) := k2.cell 2
      have g2_3 : V13.cell? ⟨(w.heap.size + 1), 3, none⟩ = some (.int .u64 (wd3 l)) := k2.cell 3
      clear k2
      simp [bodyPost, results, Tryd.results22, go_sem, g2_0, g2_1, g2_2, g2_3]
      first | exact hb0 | exact ⟨rfl, hb0⟩

theorem rtk_in (a : Int) : InI a → 0 ≤ a → InI (rtv a) := fun ia h => by
  have := rtv_is ia h
  obtain ⟨h0, h1, _⟩ := this
  have : rtv a ≤ rtv a * rtv a := by
    rcases Int.lt_or_le (rtv a) 1 with g | g
    · have := sqn (rtv a); omega
    · have := Int.mul_le_mul_of_nonneg_left g h0; omega
  unfold InI b255 at *; omega
theorem Root_v (a r : Int) (k : Bool) (hr : rtv a = r) (hk : rtk a = k) (ia : InI a) (w : World) :
    Calls Tryd.prog 22 #[wI a] w fun e w' => e = .returned (.tuple #[wI r, .bool k]) ∧ Below w.heap.size w w' := by
  by_cases h : a < 0
  · have e1 : rtv a = 0 := by unfold rtv; rw [decide_eq_true h]; rfl
    have e2 : rtk a = false := by unfold rtk; rw [decide_eq_true h]; rfl
    exact Root_0 a r k (e1.symm.trans hr) (e2.symm.trans hk) (decide_eq_true h) ia w
  · have e2 : rtk a = true := by unfold rtk; rw [decide_eq_false h]; rfl
    exact Root_1 a r k hr (e2.symm.trans hk) (decide_eq_false h) (rtv_is ia (by omega)) ia w
end Go.Proofs.YtcfiemeknocgjaaDoor

namespace Go.Proofs.YtcfiemeknocgjaaDoor
open Go.RowKit

/-- so many products fit -/
def pwO (x : Int) : Nat → Bool
  | 0 => true
  | n + 1 => pwO x n && okI (x ^ n * x)
theorem pwO_lt {x : Int} {n : Nat} (h : pwO x n = false) : ∀ m, n ≤ m → pwO x m = false := by
  intro m hm
  induction m with
  | zero => have e0 : n = 0 := (by omega); rw [e0] at h; exact h
  | succ m ih =>
    by_cases e : n = m + 1
    · rw [← e]; exact h
    · unfold pwO; rw [ih (by omega)]; rfl
def pwk (x n : Int) : Bool := bif decide (n < 0) then false else (bif decide (256 < n) then false else pwO x n.toNat)
def pwv (x n : Int) : Int := bif pwk x n then x ^ n.toNat else 0
/-- where the loop stands -/
def PwI (x n o k : Int) : Prop := 0 ≤ k ∧ k ≤ n ∧ n ≤ 256 ∧ o = x ^ k.toNat ∧ pwO x k.toNat = true ∧ InI o
theorem PwI.io {x n o k : Int} (h : PwI x n o k) : InI o := h.2.2.2.2.2
theorem PwI.begin {x n : Int} (h0 : 0 ≤ n) (h : n ≤ 256) : PwI x n 1 0 := ⟨by omega, h0, h, by simp, rfl, by unfold InI b255; omega⟩
theorem PwI.next {x n o k p : Int} (h : PwI x n o k) (hk : k < n) (e : mulv o x = p) (ok : okI (o * x) = true) : PwI x n p (wrap64 (k + 1)) := by
  obtain ⟨h0, h1, h2, h3, h4, h5⟩ := h
  have e1 : wrap64 (k + 1) = k + 1 := wrap64_id (by unfold In64; omega)
  have e2 : (k + 1).toNat = k.toNat + 1 := by omega
  have e3 : o * x = p := mulv_okb ok e
  rw [e1]
  refine ⟨by omega, by omega, h2, ?_, ?_, ?_⟩
  · rw [e2, Int.pow_succ, ← h3, e3]
  · rw [e2]; unfold pwO; rw [h4, ← h3, ok]; rfl
  · rw [← e3]; unfold okI at ok; exact of_decide_eq_true ok
theorem PwI.w {x n o k : Int} (h : PwI x n o k) (hk : k < n) : wrap64 (k + 1) = k + 1 := by obtain ⟨h0, h1, h2, h3, h4, h5⟩ := h; exact wrap64_id (by unfold In64; omega)
theorem PwI.no {x n o k : Int} (h : PwI x n o k) (hk : k < n) (ok : okI (o * x) = false) : pwk x n = false := by
  obtain ⟨h0, h1, h2, h3, h4, h5⟩ := h
  unfold pwk
  rw [decide_eq_false (show ¬ n < 0 by omega), decide_eq_false (show ¬ 256 < n by omega)]
  have : pwO x (k.toNat + 1) = false := by unfold pwO; rw [← h3, ok, Bool.and_false]
  exact pwO_lt this _ (by omega)
theorem PwI.yes {x n o k : Int} (h : PwI x n o k) (hk : ¬ k < n) : pwk x n = true ∧ pwv x n = o := by
  obtain ⟨h0, h1, h2, h3, h4, h5⟩ := h
  obtain rfl : k = n := by omega
  have : pwk x k = true := by
    unfold pwk
    rw [decide_eq_false (show ¬ k < 0 by omega), decide_eq_false (show ¬ 256 < k by omega)]; exact h4
  exact ⟨this, by unfold pwv; rw [this, h3]; rfl⟩
theorem pw_zero {x n : Int} (h : pwk x n = false) : pwv x n = 0 := by unfold pwv; rw [h]; rfl

set_option maxRecDepth 100000 in
set_option maxHeartbeats 4000000 in

theorem Power_g (x : Int) (n : Int)  (R0 : Int) (R1 : Bool) (hR0 : pwv x n = R0) (hR1 : pwk x n = R1) (hP0 : decide (n < 0) = false) (hP1 : decide (256 < n) = false) (_ix : InI x) (_in : In64 n)  (w : World)  :
    Calls Tryd.prog 26 #[.agg #[.int .u64 (wd0 x), .int .u64 (wd1 x), .int .u64 (wd2 x), .int .u64 (wd3 x)], .int .i64 n] w fun e w' => e = .returned (.tuple #[.agg #[.int .u64 (wd0 R0), .int .u64 (wd1 R0), .int .u64 (wd2 R0), .int .u64 (wd3 R0)], .bool R1]) ∧ Below w.heap.size w w' := by

  have HR0 := Lib.hid hR0
  clear hR0
  have HR1 := Lib.hid hR1
  clear hR1
  go_enter Tryd.func26, Tryd.ntmps26
  go_wp2_with fail
  first | refine calls_w ?_ | refine name_world ?_ | refine list_world ?_ | refine post_world ?_
  intro V1 hV1
  have hn : Below w.heap.size w V1 := by rw [hV1]; exact below_a2 _ _ _
  have nhb0 := hn
  have k1 : Blk V1 w.heap.size #[.int .u64 (wd0 x), .int .u64 (wd1 x), .int .u64 (wd2 x), .int .u64 (wd3 x)] 24 := by rw [hV1]; exact ((Blk.new _ _ _).alloc _)
  have k2 : Blk V1 (w.heap.size + 1) #[.int .u64 0, .int .u64 0, .int .u64 0, .int .u64 0] 24 := by rw [hV1]; exact (Blk.new1 _ _ _ _)
  clear hV1
  have hb0 := nhb0
  clear nhb0
  refine (Of_v 1 1 rfl (by unfold In64; omega) _).mono ?_
  rintro e U2 ⟨rfl, hn⟩
  replace k1 := k1.of hn
  replace k2 := k2.of hn
  replace hb0 := hb0.trans (hn.mono hb0.size)
  clear hn
  go_wp2_with fail
  first | refine name_world ?_
  intro V3 hV3
  have D1 := Lib.hid k1.lt
  have D2 := Lib.hid k2.lt
  have D3 := Lib.hid hb0.size
  have hn : Below U2.heap.size U2 V3 := by rw [hV3]; exact below_a1 _ _
  have nk1 := k1.of hn
  have nk2 := k2.of hn
  have nhb0 := hb0.trans (hn.mono hb0.size)
  clear hn
  have k3 : Blk V3 U2.heap.size #[.int .u64 (wd0 1), .int .u64 (wd1 1), .int .u64 (wd2 1), .int .u64 (wd3 1)] 24 := by rw [hV3]; exact (Blk.new _ _ _)
  clear k1 k2
  clear hb0
  clear hV3
  have k1 := nk1
  clear nk1
  have k2 := nk2
  clear nk2
  have hb0 := nhb0
  clear nhb0
  go_loopg [17] (n.toNat) (fun gk_ s1_0 wr => ∃ (o : Int) (k : Int), s1_0 = .int .i64 k ∧ Hid (PwI x n o k ∧ n - k ≤ (gk_ : Int)) ∧ Blk wr w.heap.size #[.int .u64 (wd0 x), .int .u64 (wd1 x), .int .u64 (wd2 x), .int .u64 (wd3 x)] 24 ∧ Blk wr (w.heap.size + 1) #[.int .u64 0, .int .u64 0, .int .u64 0, .int .u64 0] 24 ∧ Blk wr U2.heap.size #[.int .u64 (wd0 o), .int .u64 (wd1 o), .int .u64 (wd2 o), .int .u64 (wd3 o)] 24 ∧ Below w.heap.size w wr)
  case atStart =>
    have HIn : PwI x n 1 0 ∧ n - 0 ≤ ((n.toNat) : Int) := by
      exact ⟨PwI.begin (by simpa using hP0) (by simpa using hP1), by omega⟩
    exact ⟨1, 0, rfl, Lib.hid HIn, k1, k2, k3, hb0⟩
  case round =>
    rename World => W1_
    rename Nat => gk1
    clear k1 k2 k3
    clear hb0
    obtain ⟨o, k, rfl, HI1, k1, k2, k3, hb0⟩ := hrel
    obtain ⟨z1, hz1⟩ : ∃ o_o : Bool, decide (k < n) = o_o := ⟨_, rfl⟩
    cases z1
    · have c2_0 : W1_.cell? ⟨(w.heap.size + 1), 0, none⟩ = some (.int .u64 0) := k2.cell 0
      have c2_1 : W1_.cell? ⟨(w.heap.size + 1), 1, none⟩ = some (.int .u64 0) := k2.cell 1
      have c2_2 : W1_.cell? ⟨(w.heap.size + 1), 2, none⟩ = some (.int .u64 0) := k2.cell 2
      have c2_3 : W1_.cell? ⟨(w.heap.size + 1), 3, none⟩ = some (.int .u64 0) := k2.cell 3
      have f2_0 := k2.free 0
      have f2_1 := k2.free 1
      have f2_2 := k2.free 2
      have f2_3 := k2.free 3
      have l2 := k2.lt
      have c3_0 : W1_.cell? ⟨U2.heap.size, 0, none⟩ = some (.int .u64 (wd0 o)) := k3.cell 0
      have c3_1 : W1_.cell? ⟨U2.heap.size, 1, none⟩ = some (.int .u64 (wd1 o)) := k3.cell 1
      have c3_2 : W1_.cell? ⟨U2.heap.size, 2, none⟩ = some (.int .u64 (wd2 o)) := k3.cell 2
      have c3_3 : W1_.cell? ⟨U2.heap.size, 3, none⟩ = some (.int .u64 (wd3 o)) := k3.cell 3
      have l3 := k3.lt
      have p3_2 : U2.heap.size ≠ (w.heap.size + 1) := (by have := D2.out; omega)
      have e0 : o = R0 := by rw [← HR0.out]; first | exact (HI1.out.1.yes (of_decide_eq_false hz1)).2.symm | exact (pw_zero (HI1.out.1.no (of_decide_eq_true hz1) Hz3.out)).symm
      have e1 : true = R1 := by rw [← HR1.out]; first | exact (HI1.out.1.yes (of_decide_eq_false hz1)).1.symm | exact (HI1.out.1.no (of_decide_eq_true hz1) Hz3.out).symm
      subst e0
      subst e1
      go_wp2
      clear c2_0 c2_1 c2_2 c2_3 f2_0 f2_1 f2_2 f2_3 l2 c3_0 c3_1 c3_2 c3_3 l3 p3_2
      first | refine post_world ?_
      intro V4 hV4
      clear k1 k3
      have D4 := Lib.hid k2.lt
      have D5 := Lib.hid hb0.size
      have nk2 : Blk V4 (w.heap.size + 1) #[.int .u64 (wd0 o), .int .u64 (wd1 o), .int .u64 (wd2 o), .int .u64 (wd3 o)] 24 := by rw [hV4]; exact (blk_full _ [.int .u64 (wd0 o), .int .u64 (wd1 o), .int .u64 (wd2 o), .int .u64 (wd3 o)] k2 rfl)
      have nhb0 : Below w.heap.size w V4 := by rw [hV4]; exact (blw_setL hb0 (by omega) 0 [.int .u64 (wd0 o), .int .u64 (wd1 o), .int .u64 (wd2 o), .int .u64 (wd3 o)])
      clear k2
      clear hb0
      clear hV4
      have k2 := nk2
      clear nk2
      have hb0 := nhb0
      clear nhb0
      have g2_0 : V4.cell? ⟨(w.heap.size + 1), 0, none⟩ = some (.int .u64 (wd0 o)) := k2.cell 0
      have g2_1 : V4.cell? ⟨(w.heap.size + 1), 1, none⟩ = some (.int .u64 (wd1 o)) := k2.cell 1
      have g2_2 : V4.cell? ⟨(w.heap.size + 1), 2, none⟩ = some (.int .u64 (wd2 o)) := k2.cell 2
      have g2_3 : V4.cell? ⟨(w.heap.size + 1), 3, none⟩ = some (.int .u64 (wd3 o)) := k2.cell 3
      clear k2
      simp [bodyPost, results, Tryd.results26, go_sem, g2_0, g2_1, g2_2, g2_3]
      first | exact hb0 | exact ⟨rfl, hb0⟩
    · have c1_0 : W1_.cell? ⟨w.heap.size, 0, none⟩ = some (.int .u64 (wd0 x)) := k1.cell 0
      have c1_1 : W1_.cell? ⟨w.heap.size, 1, none⟩ = some (.int .u64 (wd1 x)) := k1.cell 1
      have c1_2 : W1_.cell? ⟨w.heap.size, 2, none⟩ = some (.int .u64 (wd2 x)) := k1.cell 2
      have c1_3 : W1_.cell? ⟨w.heap.size, 3, none⟩ = some (.int .u64 (wd3 x)) := k1.cell 3
      have l1 := k1.lt
      have c3_0 : W1_.cell? ⟨U2.heap.size, 0, none⟩ = some (.int .u64 (wd0 o)) := k3.cell 0
      have c3_1 : W1_.cell? ⟨U2.heap.size, 1, none⟩ = some (.int .u64 (wd1 o)) := k3.cell 1
      have c3_2 : W1_.cell? ⟨U2.heap.size, 2, none⟩ = some (.int .u64 (wd2 o)) := k3.cell 2
      have c3_3 : W1_.cell? ⟨U2.heap.size, 3, none⟩ = some (.int .u64 (wd3 o)) := k3.cell 3
      have l3 := k3.lt
      go_wp2_with fail
      clear c1_0 c1_1 c1_2 c1_3 l1 c3_0 c3_1 c3_2 c3_3 l3
      obtain ⟨r2, hr2⟩ : ∃ o_o : Int, mulv o x = o_o := ⟨_, rfl⟩
      have Hr2 := Lib.hid hr2
      clear hr2
      obtain ⟨z3, hz3⟩ : ∃ o_o : Bool, okI (o * x) = o_o := ⟨_, rfl⟩
      have Hz3 := Lib.hid hz3
      clear hz3
      refine (Mul_v o x r2 z3 Hr2.out Hz3.out HI1.out.1.io _ix _).mono ?_
      rintro e U5 ⟨rfl, hn⟩
      replace k1 := k1.of hn
      replace k2 := k2.of hn
      replace k3 := k3.of hn
      replace hb0 := hb0.trans (hn.mono hb0.size)
      clear hn
      cases z3
      · have c2_0 : U5.cell? ⟨(w.heap.size + 1), 0, none⟩ = some (.int .u64 0) := k2.cell 0
        have c2_1 : U5.cell? ⟨(w.heap.size + 1), 1, none⟩ = some (.int .u64 0) := k2.cell 1
        have c2_2 : U5.cell? ⟨(w.heap.size + 1), 2, none⟩ = some (.int .u64 0) := k2.cell 2
        have c2_3 : U5.cell? ⟨(w.heap.size + 1), 3, none⟩ = some (.int .u64 0) := k2.cell 3
        have f2_0 := k2.free 0
        have f2_1 := k2.free 1
        have f2_2 := k2.free 2
        have f2_3 := k2.free 3
        have l2 := k2.lt
        have c3_0 : U5.cell? ⟨U2.heap.size, 0, none⟩ = some (.int .u64 (wd0 o)) := k3.cell 0
        have c3_1 : U5.cell? ⟨U2.heap.size, 1, none⟩ = some (.int .u64 (wd1 o)) := k3.cell 1
        have c3_2 : U5.cell? ⟨U2.heap.size, 2, none⟩ = some (.int .u64 (wd2 o)) := k3.cell 2
        have c3_3 : U5.cell? ⟨U2.heap.size, 3, none⟩ = some (.int .u64 (wd3 o)) := k3.cell 3
        have f3_0 := k3.free 0
        have f3_1 := k3.free 1
        have f3_2 := k3.free 2
        have f3_3 := k3.free 3
        have l3 := k3.lt
        have p2_3 : (w.heap.size + 1) ≠ U2.heap.size := (by have := D2.out; omega)
        have e0 : 0 = R0 := by rw [← HR0.out]; first | exact (HI1.out.1.yes (of_decide_eq_false hz1)).2.symm | exact (pw_zero (HI1.out.1.no (of_decide_eq_true hz1) Hz3.out)).symm
        have e1 : false = R1 := by rw [← HR1.out]; first | exact (HI1.out.1.yes (of_decide_eq_false hz1)).1.symm | exact (HI1.out.1.no (of_decide_eq_true hz1) Hz3.out).symm
        subst e0
        subst e1
        go_wp2
        clear c2_0 c2_1 c2_2 c2_3 f2_0 f2_1 f2_2 f2_3 l2 c3_0 c3_1 c3_2 c3_3 f3_0 f3_1 f3_2 f3_3 l3 p2_3
        first | refine post_world ?_
        intro V6 hV6
        have D6 := Lib.hid k1.lt
        have D7 := Lib.hid k2.lt
        have D8 := Lib.hid k3.lt
        have D9 := Lib.hid hb0.size
        clear k1 k3
        have nk2 : Blk V6 (w.heap.size + 1) #[.int .u64 0, .int .u64 0, .int .u64 0, .int .u64 0] 24 := by rw [hV6]; exact (blk_full _ [.int .u64 0, .int .u64 0, .int .u64 0, .int .u64 0] (blk_setL k2 (by have := D2.out; omega) 0 [.int .u64 (wd0 r2), .int .u64 (wd1 r2), .int .u64 (wd2 r2), .int .u64 (wd3 r2)]) rfl)
        have nhb0 : Below w.heap.size w V6 := by rw [hV6]; exact (blw_setL (blw_setL hb0 (by have := D3.out; omega) 0 [.int .u64 (wd0 r2), .int .u64 (wd1 r2), .int .u64 (wd2 r2), .int .u64 (wd3 r2)]) (by omega) 0 [.int .u64 0, .int .u64 0, .int .u64 0, .int .u64 0])
        clear k2
        clear hb0
        clear hV6
        have k2 := nk2
        clear nk2
        have hb0 := nhb0
        clear nhb0
        have g2_0 : V6.cell? ⟨(w.heap.size + 1), 0, none⟩ = some (.int .u64 0) := k2.cell 0
        have g2_1 : V6.cell? ⟨(w.heap.size + 1), 1, none⟩ = some (.int .u64 0) := k2.cell 1
        have g2_2 : V6.cell? ⟨(w.heap.size + 1), 2, none⟩ = some (.int .u64 0) := k2.cell 2
        have g2_3 : V6.cell? ⟨(w.heap.size + 1), 3, none⟩ = some (.int .u64 0) := k2.cell 3
        clear k2
        simp [bodyPost, results, Tryd.results26, go_sem, g2_0, g2_1, g2_2, g2_3, wd0_0, wd1_0, wd2_0, wd3_0]
        first | exact hb0 | exact ⟨rfl, hb0⟩
      · have c3_0 : U5.cell? ⟨U2.heap.size, 0, none⟩ = some (.int .u64 (wd0 o)) := k3.cell 0
        have c3_1 : U5.cell? ⟨U2.heap.size, 1, none⟩ = some (.int .u64 (wd1 o)) := k3.cell 1
        have c3_2 : U5.cell? ⟨U2.heap.size, 2, none⟩ = some (.int .u64 (wd2 o)) := k3.cell 2
        have c3_3 : U5.cell? ⟨U2.heap.size, 3, none⟩ = some (.int .u64 (wd3 o)) := k3.cell 3
        have f3_0 := k3.free 0
        have f3_1 := k3.free 1
        have f3_2 := k3.free 2
        have f3_3 := k3.free 3
        have l3 := k3.lt
        go_wp2_with fail
        clear c3_0 c3_1 c3_2 c3_3 f3_0 f3_1 f3_2 f3_3 l3
        first | refine k_world ?_
        intro V7 hV7
        have D10 := Lib.hid k1.lt
        have D11 := Lib.hid k2.lt
        have D12 := Lib.hid k3.lt
        have D13 := Lib.hid hb0.size
        have nk1 : Blk V7 w.heap.size #[.int .u64 (wd0 x), .int .u64 (wd1 x), .int .u64 (wd2 x), .int .u64 (wd3 x)] 24 := by rw [hV7]; exact (blk_setL k1 (by have := D1.out; omega) 0 [.int .u64 (wd0 r2), .int .u64 (wd1 r2), .int .u64 (wd2 r2), .int .u64 (wd3 r2)])
        have nk2 : Blk V7 (w.heap.size + 1) #[.int .u64 0, .int .u64 0, .int .u64 0, .int .u64 0] 24 := by rw [hV7]; exact (blk_setL k2 (by have := D2.out; omega) 0 [.int .u64 (wd0 r2), .int .u64 (wd1 r2), .int .u64 (wd2 r2), .int .u64 (wd3 r2)])
        have nk3 : Blk V7 U2.heap.size #[.int .u64 (wd0 r2), .int .u64 (wd1 r2), .int .u64 (wd2 r2), .int .u64 (wd3 r2)] 24 := by rw [hV7]; exact (blk_full _ [.int .u64 (wd0 r2), .int .u64 (wd1 r2), .int .u64 (wd2 r2), .int .u64 (wd3 r2)] k3 rfl)
        have nhb0 : Below w.heap.size w V7 := by rw [hV7]; exact (blw_setL hb0 (by have := D3.out; omega) 0 [.int .u64 (wd0 r2), .int .u64 (wd1 r2), .int .u64 (wd2 r2), .int .u64 (wd3 r2)])
        clear k1 k2 k3
        clear hb0
        clear hV7
        have k1 := nk1
        clear nk1
        have k2 := nk2
        clear nk2
        have k3 := nk3
        clear nk3
        have hb0 := nhb0
        clear nhb0
        have HIn : PwI x n r2 (wrap64 (k + 1)) ∧ n - (wrap64 (k + 1)) ≤ (((n - (wrap64 (k + 1))).toNat) : Int) := by
          exact ⟨HI1.out.1.next (of_decide_eq_true hz1) Hr2.out Hz3.out, by omega⟩
        go_roundg ((n - (wrap64 (k + 1))).toNat)
        case measure =>
          rw [HI1.out.1.w (of_decide_eq_true hz1)]
          have q_ := of_decide_eq_true hz1
          have q2_ := HI1.out.2
          omega
        case rel => exact ⟨r2, (wrap64 (k + 1)), rfl, Lib.hid HIn, k1, k2, k3, hb0⟩

set_option maxRecDepth 100000 in
set_option maxHeartbeats 4000000 in

theorem Power_0 (x : Int) (n : Int)  (R0 : Int) (R1 : Bool) (hR0 : (fun _ _ => 0) x n = R0) (hR1 : (fun _ _ => false) x n = R1) (hP0 : decide (n < 0) = true) (_ix : InI x) (_in : In64 n)  (w : World)  :
    Calls Tryd.prog 26 #[.agg #[.int .u64 (wd0 x), .int .u64 (wd1 x), .int .u64 (wd2 x), .int .u64 (wd3 x)], .int .i64 n] w fun e w' => e = .returned (.tuple #[.agg #[.int .u64 (wd0 R0), .int .u64 (wd1 R0), .int .u64 (wd2 R0), .int .u64 (wd3 R0)], .bool R1]) ∧ Below w.heap.size w w' := by

  have HR0 := Lib.hid hR0
  clear hR0
  have HR1 := Lib.hid hR1
  clear hR1
  go_enter Tryd.func26, Tryd.ntmps26
  have e0 : 0 = R0 := by rw [← HR0.out]; all_goals first | rfl | simp
  have e1 : false = R1 := by rw [← HR1.out]; all_goals first | rfl | simp
  subst e0
  subst e1
  go_wp2
  first | refine post_world ?_
  intro V1 hV1
  have hn : Below w.heap.size w V1 := by rw [hV1]; exact below_a2 _ _ _
  have nhb0 := hn
  have k2 : Blk V1 (w.heap.size + 1) #[.int .u64 0, .int .u64 0, .int .u64 0, .int .u64 0] 24 := by rw [hV1]; exact (Blk.new1 _ _ _ _)
  clear hV1
  have hb0 := nhb0
  clear nhb0
  have g2_0 : V1.cell? ⟨(w.heap.size + 1), 0, none⟩ = some (.int .u64 0) := k2.cell 0
  have g2_1 : V1.cell? ⟨(w.heap.size + 1), 1, none⟩ = some (.int .u64 0) := k2.cell 1
  have g2_2 : V1.cell? ⟨(w.heap.size + 1), 2, none⟩ = some (.int .u64 0) := k2.cell 2
  have g2_3 : V1.cell? ⟨(w.heap.size + 1), 3, none⟩ = some (.int .u64 0) := k2.cell 3
  clear k2
  simp [bodyPost, results, Tryd.results26, go_sem, g2_0, g2_1, g2_2, g2_3, wd0_0, wd1_0, wd2_0, wd3_0]
  first | exact hb0 | exact ⟨rfl, hb0⟩

set_option maxRecDepth 100000 in
set_option maxHeartbeats 4000000 in

theorem Power_1 (x : Int) (n : Int)  (R0 : Int) (R1 : Bool) (hR0 : (fun _ _ => 0) x n = R0) (hR1 : (fun _ _ => false) x n = R1) (hP0 : decide (n < 0) = false) (hP1 : decide (256 < n) = true) (_ix : InI x) (_in : In64 n)  (w : World)  :
    Calls Tryd.prog 26 #[.agg #[.int .u64 (wd0 x), .int .u64 (wd1 x), .int .u64 (wd2 x), .int .u64 (wd3 x)], .int .i64 n] w fun e w' => e = .returned (.tuple #[.agg #[.int .u64 (wd0 R0), .int .u64 (wd1 R0), .int .u64 (wd2 R0), .int .u64 (wd3 R0)], .bool R1]) ∧ Below w.heap.size w w' := by

  have HR0 := Lib.hid hR0
  clear hR0
  have HR1 := Lib.hid hR1
  clear hR1
  go_enter Tryd.func26, Tryd.ntmps26
  have e0 : 0 = R0 := by rw [← HR0.out]; all_goals first | rfl | simp
  have e1 : false = R1 := by rw [← HR1.out]; all_goals first | rfl | simp
  subst e0
  subst e1
  go_wp2
  first | refine post_world ?_
  intro V1 hV1
  have hn : Below w.heap.size w V1 := by rw [hV1]; exact below_a2 _ _ _
  have nhb0 := hn
  have k2 : Blk V1 (w.heap.size + 1) #[.int .u64 0, .int .u64 0, .int .u64 0, .int .u64 0] 24 := by rw [hV1]; exact (Blk.new1 _ _ _ _)
  clear hV1
  have hb0 := nhb0
  clear nhb0
  have g2_0 : V1.cell? ⟨(w.heap.size + 1), 0, none⟩ = some (.int .u64 0) := k2.cell 0
  have g2_1 : V1.cell? ⟨(w.heap.size + 1), 1, none⟩ = some (.int .u64 0) := k2.cell 1
  have g2_2 : V1.cell? ⟨(w.heap.size + 1), 2, none⟩ = some (.int .u64 0) := k2.cell 2
  have g2_3 : V1.cell? ⟨(w.heap.size + 1), 3, none⟩ = some (.int .u64 0) := k2.cell 3
  clear k2
  simp [bodyPost, results, Tryd.results26, go_sem, g2_0, g2_1, g2_2, g2_3, wd0_0, wd1_0, wd2_0, wd3_0]
  first | exact hb0 | exact ⟨rfl, hb0⟩

theorem Power_v (x n p : Int) (k : Bool) (hp : pwv x n = p) (hk : pwk x n = k) (ix : InI x) (i_n : In64 n) (w : World) :
    Calls Tryd.prog 26 #[wI x, .int .i64 n] w fun e w' => e = .returned (.tuple #[wI p, .bool k]) ∧ Below w.heap.size w w' := by
  by_cases h : n < 0
  · have e2 : pwk x n = false := by unfold pwk; rw [decide_eq_true h]; rfl
    exact Power_0 x n p k ((pw_zero e2).symm.trans hp) (e2.symm.trans hk) (decide_eq_true h) ix i_n w
  · by_cases g : 256 < n
    · have e2 : pwk x n = false := by unfold pwk; rw [decide_eq_false h, decide_eq_true g]; rfl
      exact Power_1 x n p k ((pw_zero e2).symm.trans hp) (e2.symm.trans hk) (decide_eq_false h) (decide_eq_true g) ix i_n w
    · exact Power_g x n p k hp hk (decide_eq_false h) (decide_eq_false g) ix i_n w
end Go.Proofs.YtcfiemeknocgjaaDoor

