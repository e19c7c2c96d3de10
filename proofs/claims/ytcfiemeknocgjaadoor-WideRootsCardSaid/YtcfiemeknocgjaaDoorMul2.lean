/- The walk of package wide's Mul, up to its loops. Conditions: the numbers are numbers of 256 bits. -/
import Derived.Test.YtcfiemeknocgjaaDoorMul1
import Derived.Test.YtcfiemeknocgjaaDoorMulN
namespace Go.Proofs.YtcfiemeknocgjaaDoor
open Go.RowKit

def dw (ds : List Int) : List Value := ds.map (Value.int .u64)
theorem dw_get {ds : List Int} {j : Nat} (h : j < ds.length) : (dw ds).toArray[j]? = some (.int .u64 (ds.getD j 0)) := by
  unfold dw; simp [h]
theorem dw_put (ds : List Int) (j : Nat) (v : Int) : (dw ds).toArray.setIfInBounds j (.int .u64 v) = (dw (ds.set j v)).toArray := by
  unfold dw; rw [List.setIfInBounds_toArray, List.map_set]
/-- the four words of a number -/
def ws4 (x : Int) : List Int := [wd0 x, wd1 x, wd2 x, wd3 x]
theorem ws4_ok (x : Int) : WordsOk (ws4 x) := by
  intro d hd
  simp only [ws4, List.mem_cons, List.not_mem_nil, or_false] at hd
  rcases hd with rfl | rfl | rfl | rfl
  · exact wd0_Wd x
  · exact wd1_Wd x
  · exact wd2_Wd x
  · exact wd3_Wd x
theorem uval_ws4 (x : Int) : uval (ws4 x) = x % b256 := by
  rw [← un4_wd]
  simp only [ws4, uval, un4, b64, b128, b192]; omega
theorem Var.at {w : World} {b : Nat} {x : Int} (h : Var w b x) {i : Nat} (hi : i < 4) : w.cell? ⟨b, i, none⟩ = some (.int .u64 ((ws4 x).getD i 0)) := by
  rw [Blk.cell h]
  match i, hi with
  | 0, _ => rfl
  | 1, _ => rfl
  | 2, _ => rfl
  | 3, _ => rfl

/-- where the product stands -/
structure MulW (w : World) (a b : Int) (b1 b2 b3 : Nat) (out : List Int) (wr : World) : Prop where
  ka : Var wr w.heap.size a
  kb : Var wr (w.heap.size + 1) b
  k0 : Var wr (w.heap.size + 1 + 1) 0
  kx : Var wr b1 (sz a)
  ky : Var wr b2 (sz b)
  ko : Blk wr b3 (dw out).toArray 70
  len : out.length = 8
  l1 : b1 < b3
  l2 : b2 < b3
  l3 : w.heap.size + 1 + 1 < b3
  below : Below w.heap.size w wr
theorem MulW.of {w : World} {a b : Int} {b1 b2 b3 : Nat} {out : List Int} {wr w' : World} (h : MulW w a b b1 b2 b3 out wr) (hn : Below wr.heap.size wr w') : MulW w a b b1 b2 b3 out w' :=
  ⟨h.ka.of hn, h.kb.of hn, h.k0.of hn, h.kx.of hn, h.ky.of hn, h.ko.of hn, h.len, h.l1, h.l2, h.l3, h.below.trans (hn.mono h.below.size)⟩
theorem MulW.put {w : World} {a b : Int} {b1 b2 b3 : Nat} {out : List Int} {wr : World} (h : MulW w a b b1 b2 b3 out wr) (j : Nat) (v : Int) : MulW w a b b1 b2 b3 (out.set j v) (wr.setCell ⟨b3, j, none⟩ (.int .u64 v)) := by
  have h1 := h.l1; have h2 := h.l2; have h3 := h.l3
  exact ⟨h.ka.set (by omega) _ _ _, h.kb.set (by omega) _ _ _, h.k0.set (by omega) _ _ _, h.kx.set (by omega) _ _ _, h.ky.set (by omega) _ _ _, by rw [← dw_put]; exact Blk.put h.ko _ _, by rw [List.length_set]; exact h.len, h1, h2, h3, h.below.setCell (by show _ ≤ b3; omega) _⟩
theorem MulW.outc {w : World} {a b : Int} {b1 b2 b3 : Nat} {out : List Int} {wr : World} (h : MulW w a b b1 b2 b3 out wr) {j : Nat} (hj : j < 8) : wr.cell? ⟨b3, j, none⟩ = some (.int .u64 (out.getD j 0)) := by
  rw [h.ko.cell]; exact dw_get (by rw [h.len]; exact hj)

@[go_sem] theorem run_eq23 (a0 a1 a2 a3 b0 b1 b2 b3 : Int) (w : World) :
    (Op.equalIn 10000 23 (.agg #[.int .u64 a0, .int .u64 a1, .int .u64 a2, .int .u64 a3]) (.agg #[.int .u64 b0, .int .u64 b1, .int .u64 b2, .int .u64 b3])).run Tryd.prog w = .ok (eq4 a0 a1 a2 a3 b0 b1 b2 b3) w := by
  have hu : Tryd.prog.underlying 23 = some (.array 4 22) := by kernel_rfl
  have hs : ∀ w, (sizeOf 22).run Tryd.prog w = .ok 1 w := fun w => by kernel_rfl
  have he : ∀ (a b : Int) w, (Op.equalIn 9999 22 (.int .u64 a) (.int .u64 b)).run Tryd.prog w = .ok (a == b) w := fun a b w => run_equalIn_int w 9998 _ .u64 .u64 a b (by kernel_rfl)
  have hp : ∀ (c : Array Value) (i : Nat) (v : Value) w, c[i]? = some v → (part 22 c i).run Tryd.prog w = .ok v w := by
    intro c i v w h
    have ha : (isAgg 22).run Tryd.prog w = .ok false w := by kernel_rfl
    unfold part
    simp [Sem.run_bind, ha, h]
  show (Op.equalIn (9999 + 1) _ _ _).run _ _ = _
  unfold Op.equalIn
  simp only [Sem.run_bind, run_underlying hu, Result.andThen_ok, hs]
  simp [List.range', he, hp, Sem.run_bind]
  unfold eq4
  by_cases h0 : a0 = b0 <;> by_cases h1 : a1 = b1 <;> by_cases h2 : a2 = b2 <;> by_cases h3 : a3 = b3 <;> simp [h0, h1, h2, h3]
@[go_sem] theorem run_arrayAt4 (a : Option Addr) (c : Nat) (w : World) : (Instr.arrayAt 23 (.slice a 4 c)).run Tryd.prog w = .ok (.pointer a) w := by
  have hu : Tryd.prog.underlying 23 = some (.array 4 22) := by kernel_rfl
  unfold Instr.arrayAt
  simp only [Sem.run_bind, run_underlying hu, Result.andThen_ok]
  rfl
@[go_sem] theorem run_arrayAtI (a : Option Addr) (c : Nat) (w : World) : (Instr.arrayAt 24 (.slice a 4 c)).run Tryd.prog w = .ok (.pointer a) w := by
  have hu : Tryd.prog.underlying 24 = some (.array 4 22) := by kernel_rfl
  unfold Instr.arrayAt
  simp only [Sem.run_bind, run_underlying hu, Result.andThen_ok]
  rfl
theorem signedk_is (x : Int) (b k : Bool) (hk : sgB x b = k) (w : World) :
    Calls Tryd.prog 30 #[wI x, .bool b] w fun e w' => e = .returned (.tuple #[wI (bif k then sgV x b else 0), .bool k]) ∧ Below w.heap.size w w' := hk ▸ signed_any x b w
theorem below_of_eq {w w' : World} (h : w = w') : Below w.heap.size w w' := h ▸ Below.refl _ _
theorem add64_0 {l o l1 m1 : Int} (hl : Wd l) (ho : Wd o) (h1 : l1 = (l + o) % 18446744073709551616) (h2 : m1 = (l + o) / 18446744073709551616) (w : World) : (callFunc 50 #[.int .u64 l, .int .u64 o, .int .u64 0]).run Tryd.prog w = .ok (.value (.tuple #[.int .u64 l1, .int .u64 m1])) w := by
  rw [add64 l o 0 hl ho (by decide) (by decide), Int.add_zero, ← h1, ← h2]

set_option maxRecDepth 100000 in
set_option maxHeartbeats 4000000 in
theorem Mul_go (a b : Int) (w : World) (u : Bool) (hu : (ng a == ng b) = !u) (P : Int) (hP : sz a % b256 * (sz b % b256) = P) (z : Bool) (hz : decide (P < b256) = z) (s : Bool) (hs : sgB P u = s) :
    Calls Tryd.prog 32 #[wI a, wI b] w fun e w' => e = .returned (.tuple #[wI (bif z && s then sgV P u else 0), .bool (z && s)]) ∧ Below w.heap.size w w' := by
  have HU := Lib.hid hu
  have HP := Lib.hid hP
  have HZ := Lib.hid hz
  have HS := Lib.hid hs
  clear hu hP hz hs
  go_enter Tryd.func32, Tryd.ntmps32
  go_wp2_with fail
  refine name_world ?_
  intro W hW
  have ka : Var W w.heap.size a := by rw [hW]; exact ((Blk.new _ _ _).alloc _).alloc _
  have kb : Var W (w.heap.size + 1) b := by rw [hW]; exact (Blk.new1 _ _ _ _).alloc _
  have k0 : Var W (w.heap.size + 1 + 1) 0 := by rw [hW]; exact Blk.new2 _ _ _ _ _
  have hb0 : Below w.heap.size w W := by rw [hW]; exact (((Below.refl _ _).alloc (Nat.le_refl _) _).alloc (by simp) _).alloc (by simp; omega) _
  clear hW
  have ca := Var.c ka
  have cb := Var.c kb
  have la := ka.lt
  have lb := kb.lt
  have KA := Lib.hid ka
  have KB := Lib.hid kb
  have K0 := Lib.hid k0
  clear ka kb k0
  refine wp_region_FG2 6 4 5 [(0, 0), (0, 2), (1, 1), (1, 3)] [(3, 6), (3, 7)] (by kernel_rfl) (by kernel_rfl) (fun _ _ d _ _ => by cases d <;> exact Iff.rfl) rfl rfl rfl allocI rfl rfl rfl allocI rfl ?_
  have hb : Below W.heap.size W W.drew := (Below.refl _ _).drew
  iterate 2
    refine wpFG_take0 rfl rfl ?_
    go_big_quiet_step (rfl)
    refine wpQuiet_nil ?_
  refine wpFG_do rfl ?_
  intro w1 hg K hK
  replace hb := hb.trans (hg.mono hb.size)
  clear hg
  go_wp2_with ((go_at_call 28; refine (size_any _ _).mono ?_; rintro e w2 ⟨rfl, hn⟩))
  refine hK.out _ _ hn ?_
  replace hb := hb.trans (hn.mono hb.size)
  clear hK K
  clear hn
  refine wpFG_do rfl ?_
  intro w1 hg K hK
  replace hb := hb.trans (hg.mono hb.size)
  clear hg
  go_wp2_with ((go_at_call 28; refine (size_any _ _).mono ?_; rintro e w2 ⟨rfl, hn⟩))
  refine hK.out _ _ hn ?_
  replace hb := hb.trans (hn.mono hb.size)
  clear hK K
  clear hn
  refine wpFG_nil ?_
  clear hb
  intro w1 hg hb b1 b2 hne lb1 nb1 lb2 nb2
  clear hg
  simp only [Act.put, ptrTo, List.setIfInBounds_toArray, List.set_cons_succ, List.set_cons_zero]
  have c1 := Var.c (show Var w1 b1 0 from nb1)
  have f1 := Var.f (show Var w1 b1 0 from nb1)
  have c2 := Var.c (show Var w1 b2 0 from nb2)
  have f2 := Var.f (show Var w1 b2 0 from nb2)
  clear ca cb la lb
  refine wpG_do3 rfl ?_
  intro K hK
  go_wp2_with (fail)
  refine hK.out _ _ ?_
  clear hK K
  refine wpG_do3 rfl ?_
  intro K hK
  go_wp2_with (fail)
  refine hK.out _ _ ?_
  clear hK K
  refine wpG_nil ?_
  refine list_world ?_
  intro V hV
  have g1 : Var w1 b1 0 := nb1
  have g2 : Var w1 b2 0 := nb2
  have h12 : b1 ≠ b2 := hne
  have na : w.heap.size ≠ b1 ∧ w.heap.size ≠ b2 := by have := KA.out.lt; omega
  have nb : w.heap.size + 1 ≠ b1 ∧ w.heap.size + 1 ≠ b2 := by have := KB.out.lt; omega
  have n0 : w.heap.size + 1 + 1 ≠ b1 ∧ w.heap.size + 1 + 1 ≠ b2 := by have := K0.out.lt; omega
  have hge1 : w.heap.size ≤ b1 := Nat.le_trans hb0.size lb1
  have hge2 : w.heap.size ≤ b2 := Nat.le_trans hb0.size lb2
  have kx : Var V b1 (sz a) := by rw [hV]; exact Blk.set4 (Var.put4 g1 _) h12 _ _ _ _
  have ky : Var V b2 (sz b) := by rw [hV]; exact Var.put4 (Blk.set4 g2 h12.symm _ _ _ _) _
  have ka : Var V w.heap.size a := by rw [hV]; exact Blk.set4 (Blk.set4 (KA.out.of hb) na.1 _ _ _ _) na.2 _ _ _ _
  have kb : Var V (w.heap.size + 1) b := by rw [hV]; exact Blk.set4 (Blk.set4 (KB.out.of hb) nb.1 _ _ _ _) nb.2 _ _ _ _
  have k0 : Var V (w.heap.size + 1 + 1) 0 := by rw [hV]; exact Blk.set4 (Blk.set4 (K0.out.of hb) n0.1 _ _ _ _) n0.2 _ _ _ _
  have hbV : Below w.heap.size w V := by rw [hV]; exact below_set4 (below_set4 (hb0.trans (hb.mono hb0.size)) hge1 _ _ _ _) hge2 _ _ _ _
  clear hV g1 g2 nb1 nb2 c1 f1 c2 f2 lb1 lb2 hb KA KB K0 hb0 na nb n0 hge1 hge2 h12 hne
  go_wp2_with fail
  refine name_world ?_
  intro W hW
  have hd0 : MulW w a b b1 b2 V.heap.size (List.replicate 8 0) W := by
    rw [hW]
    exact ⟨ka.alloc _, kb.alloc _, k0.alloc _, kx.alloc _, ky.alloc _, Blk.new _ _ _, rfl, kx.lt, ky.lt, k0.lt, hbV.alloc hbV.size _⟩
  clear hW ka kb k0 kx ky hbV
  obtain ⟨b3, hb3⟩ : ∃ b3, b3 = V.heap.size := ⟨_, rfl⟩
  rw [← hb3] at hd0 ⊢
  clear hb3 V
  go_loopw [19] (fun i wr => ∃ (k : Nat) (out : List Int), k ≤ 4 ∧ i = .int .i64 k ∧ Hid (Prw (ws4 (sz a)) (ws4 (sz b)) 8 k 0 out 0) ∧ MulW w a b b1 b2 b3 out wr) (fun i _ => 4 - (intOf i).toNat)
  case atStart => exact ⟨0, _, Nat.zero_le _, rfl, Prw.zero _ _ _, hd0⟩
  case round =>
    clear hd0 W
    rename World => wr
    obtain ⟨i, out, hi, rfl, hp, hd⟩ := hrel
    by_cases h1 : i < 4
    · have ha4 : (i : Int) < 4 := by omega
      have HD := Lib.hid hd
      clear hd
      go_wp2_with fail
      obtain ⟨wo, rfl⟩ : ∃ wo : World, wo = wr := ⟨_, rfl⟩
      have hd := HD.out
      clear HD
      go_loopw [10, 22] (fun c k wr => ∃ (j : Nat) (cv : Int) (out : List Int), j ≤ 4 ∧ k = .int .i64 j ∧ c = .int .u64 cv ∧ Hid (Prw (ws4 (sz a)) (ws4 (sz b)) 8 i j out cv) ∧ MulW w a b b1 b2 b3 out wr) (fun _ k _ => 4 - (intOf k).toNat)
      case atStart => exact ⟨0, 0, out, Nat.zero_le _, rfl, rfl, hp, hd⟩
      case round =>
        clear hd hp
        rename World => wi
        obtain ⟨j, cv, out, hj, rfl, rfl, hp, hd⟩ := hrel
        by_cases h2 : j < 4
        · obtain ⟨x, hx⟩ : ∃ x, x = (ws4 (sz a)).getD i 0 := ⟨_, rfl⟩
          obtain ⟨y, hy⟩ : ∃ y, y = (ws4 (sz b)).getD j 0 := ⟨_, rfl⟩
          obtain ⟨o, ho⟩ : ∃ o, o = out.getD (i + j) 0 := ⟨_, rfl⟩
          have hst := hp.out.step (ws4_ok _) (ws4_ok _) (show j < 4 from h2) (show i + 4 ≤ 8 by omega) hx hy ho
          have wx : Wd x := hx ▸ (ws4_ok _).get i
          have wy : Wd y := hy ▸ (ws4_ok _).get j
          have wo' : Wd o := ho ▸ hp.out.ok.get _
          have wc := hp.out.cw
          obtain ⟨m0, m1, m2, m3, m4, m5, m6, m7, m8⟩ := mul_step wx wy wo' wc
          have c1 := hd.kx.at h1
          have c2 := hd.ky.at h2
          have c3 := hd.outc (j := i + j) (by omega)
          rw [← hx] at c1
          rw [← hy] at c2
          rw [← ho] at c3
          obtain ⟨hi', hhi⟩ : ∃ h, h = x * y / 18446744073709551616 := ⟨_, rfl⟩
          obtain ⟨l, hl⟩ : ∃ h, h = x * y % 18446744073709551616 := ⟨_, rfl⟩
          rw [← hl] at m1 m2 m3 m4 m5 m6
          rw [← hhi] at m0 m4 m6
          obtain ⟨l1, hl1⟩ : ∃ h, h = (l + o) % 18446744073709551616 := ⟨_, rfl⟩
          obtain ⟨mo, hmo⟩ : ∃ h, h = (l + o) / 18446744073709551616 := ⟨_, rfl⟩
          have A1 := fun w => add64_0 m1 wo' hl1 hmo w
          rw [← hl1] at m3 m5 m6
          rw [← hmo] at m2 m4 m6
          obtain ⟨l2, hl2⟩ : ∃ h, h = (l1 + cv) % 18446744073709551616 := ⟨_, rfl⟩
          obtain ⟨mp, hmp⟩ : ∃ h, h = (l1 + cv) / 18446744073709551616 := ⟨_, rfl⟩
          have A2 := fun w => add64_0 m3 wc hl2 hmp w
          rw [← hl2] at m5
          rw [← hmp] at m6
          obtain ⟨h1', hh1⟩ : ∃ h, h = hi' + mo := ⟨_, rfl⟩
          obtain ⟨h2', hh2⟩ : ∃ h, h = h1' + mp := ⟨_, rfl⟩
          rw [← hh1] at m4 m6
          rw [← hh2] at m6
          rw [← m6, ← m5] at hst
          rw [← m6] at m7
          have W1 : IntKind.u64.wrap (hi' + mo) = h1' := by rw [← hh1]; exact IntWalk.u64_in _ (by have := m4.lo; have := m4.hi; omega)
          have W2 : IntKind.u64.wrap (h1' + mp) = h2' := by rw [← hh2]; exact IntWalk.u64_in _ (by have := m7.lo; have := m7.hi; omega)
          have TM := fun w => mul64_any x y wx wy w
          rw [← hhi, ← hl] at TM
          have HM := Lib.hid TM
          have OE := Lib.hid ho.symm
          have ST := Lib.hid hst
          have lx := hd.kx.lt
          have ly := hd.ky.lt
          have HD := Lib.hid hd
          clear hst hx hy ho wx wy wo' wc m0 m1 m2 m3 m4 m5 m6 m7 m8 hhi hl hl1 hmo hl2 hmp hh1 hh2 TM hd hp
          go_wp2_with fail
          have hb4 : (j : Int) < 4 := by omega
          refine wp_region_up wi.heap.size 11 [(true, 0), (true, 1), (true, 2), (true, 3), (true, 4), (true, 5), (false, 6), (true, 7), (true, 8), (true, 9), (true, 10)] (by kernel_rfl) (by kernel_rfl) (fun _ _ d _ _ h => by cases d <;> exact h) ?_
          have hb : Below wi.heap.size wi wi.drew := (Below.refl _ _).drew
          iterate 6
            refine wpS_takeL rfl rfl ?_
            go_big_quiet_step (rfl)
            refine wpQuiet_nil ?_
          refine wpS_doL rfl ?_
          intro K hK
          go_wp2_with ((go_at_call 49; refine (HM.out _).mono ?_; rintro e w2 ⟨rfl, hw⟩; have hn := below_of_eq hw))
          replace hb := hb.trans (hn.mono hb.size)
          refine hK.out _ _ (up_iff.2 hb) ?_
          clear hK K
          clear hn
          iterate 4
            refine wpS_takeL rfl rfl ?_
            go_big_quiet_step (rfl)
            refine wpQuiet_nil ?_
          refine wpS_nil ?_
          simp only [List.drop_succ_cons, List.drop_zero]
          have hd := HD.out.of hb
          clear c1 c2 c3 HM hb HD lx ly
          have c3 := hd.outc (j := i + j) (by omega)
          rw [OE.out] at c3
          have f3 := hd.ko.free (i + j)
          have HD := Lib.hid hd
          clear hd
          go_wp2
          go_roundw
          case rel => exact ⟨j + 1, h2', _, by omega, by go_num, rfl, ST.out, HD.out.put _ _⟩
          case measure => simp [intOf]; omega
        · have hj4 : j = 4 := by omega
          subst hj4
          have hst := hp.out.row (show i + 4 < 8 by omega)
          have c3 := hd.outc (j := i + 4) (by omega)
          have f3 := hd.ko.free (i + 4)
          have ST := Lib.hid hst
          have HD := Lib.hid hd
          clear hst hp hd
          go_wp2
          go_roundw
          case rel => exact ⟨i + 1, _, by omega, by go_num, ST.out, HD.out.put _ _⟩
          case measure => simp [intOf]; omega
    · have hi4 : i = 4 := by omega
      subst hi4
      obtain ⟨p1, p2⟩ := hp.out.all rfl
      rw [uval_ws4, uval_ws4, HP.out] at p2
      have hlen := hd.len
      match out, hlen with
      | [o0, o1, o2, o3, o4, o5, o6, o7], _ =>
        obtain ⟨e1, e2⟩ := eight p1 p2
        rw [HZ.out] at e1
        have kc := hd.ko
        have co : (wr.cell? ⟨b3, 0, none⟩ = some (.int .u64 o0) ∧ wr.cell? ⟨b3, 1, none⟩ = some (.int .u64 o1) ∧ wr.cell? ⟨b3, 2, none⟩ = some (.int .u64 o2) ∧ wr.cell? ⟨b3, 3, none⟩ = some (.int .u64 o3)) ∧ (wr.cell? ⟨b3, 4, none⟩ = some (.int .u64 o4) ∧ wr.cell? ⟨b3, 5, none⟩ = some (.int .u64 o5) ∧ wr.cell? ⟨b3, 6, none⟩ = some (.int .u64 o6) ∧ wr.cell? ⟨b3, 7, none⟩ = some (.int .u64 o7)) := ⟨⟨kc.cell 0, kc.cell 1, kc.cell 2, kc.cell 3⟩, kc.cell 4, kc.cell 5, kc.cell 6, kc.cell 7⟩
        have E2 := Lib.hid e2
        have HD := Lib.hid hd
        clear p1 p2 hp kc e2 hd
        cases z
        · have k0 := HD.out.k0
          have c0 := Var.c k0
          have f0 := Var.f k0
          go_wp2
          refine post_world ?_
          intro Wf hWf
          have kf : Var Wf (w.heap.size + 1 + 1) 0 := by rw [hWf]; exact Var.put4 k0 0
          have hbf : Below w.heap.size w Wf := by rw [hWf]; exact below_set4 HD.out.below (by omega) _ _ _ _
          have c := Var.c kf
          clear hWf c0 f0 co
          simp [bodyPost, results, Tryd.results32, go_sem, c]
          exact hbf
        · have hP : P < b256 := of_decide_eq_true HZ.out
          obtain ⟨q0, q1, q2, q3⟩ := E2.out hP
          subst q0
          subst q1
          subst q2
          subst q3
          clear hP E2
          go_wp2_with fail
          have ca := Var.c HD.out.ka
          have cb := Var.c HD.out.kb
          have la := HD.out.ka.lt
          have lb := HD.out.kb.lt
          have lo := HD.out.ko.lt
          have hu := HU.out
          have co1 := co.1
          clear co
          refine wp_region_up wr.heap.size 11 [(true, 0), (true, 1), (true, 2), (true, 3), (true, 5), (false, 4), (false, 6), (true, 7), (false, 8), (true, 9), (true, 10)] (by kernel_rfl) (by kernel_rfl) (fun _ _ d _ _ h => by cases d <;> exact h) ?_
          have hb : Below wr.heap.size wr wr.drew := (Below.refl _ _).drew
          iterate 5
            refine wpS_takeL rfl rfl ?_
            go_big_quiet_step (rfl)
            refine wpQuiet_nil ?_
          refine wpS_doL rfl ?_
          intro K hK
          go_wp2_with ((first | (go_at_call 33; refine (negative_any _ _).mono ?_; rintro e w2 ⟨rfl, hn⟩) | (go_at_call 30; refine (signedk_is P u s HS.out _).mono ?_; rintro e w3 ⟨rfl, hn⟩)))
          replace hb := hb.trans (hn.mono hb.size)
          refine hK.out _ _ (up_iff.2 hb) ?_
          clear hK K
          clear hn
          refine wpS_doL rfl ?_
          intro K hK
          go_wp2_with ((first | (go_at_call 33; refine (negative_any _ _).mono ?_; rintro e w2 ⟨rfl, hn⟩) | (go_at_call 30; refine (signedk_is P u s HS.out _).mono ?_; rintro e w3 ⟨rfl, hn⟩)))
          replace hb := hb.trans (hn.mono hb.size)
          refine hK.out _ _ (up_iff.2 hb) ?_
          clear hK K
          clear hn
          refine wpS_takeL rfl rfl ?_
          go_big_quiet_step (rfl)
          refine wpQuiet_nil ?_
          refine wpS_doL rfl ?_
          intro K hK
          go_wp2_with ((first | (go_at_call 33; refine (negative_any _ _).mono ?_; rintro e w2 ⟨rfl, hn⟩) | (go_at_call 30; refine (signedk_is P u s HS.out _).mono ?_; rintro e w3 ⟨rfl, hn⟩)))
          replace hb := hb.trans (hn.mono hb.size)
          refine hK.out _ _ (up_iff.2 hb) ?_
          clear hK K
          clear hn
          iterate 2
            refine wpS_takeL rfl rfl ?_
            go_big_quiet_step (rfl)
            refine wpQuiet_nil ?_
          refine wpS_nil ?_
          simp only [List.drop_succ_cons, List.drop_zero]
          have k0 : Var w3 (w.heap.size + 1 + 1) 0 := HD.out.k0.of hb
          have hbb := HD.out.below.trans (hb.mono HD.out.below.size)
          clear ca cb la lb lo hu co1 hb HD
          have c0 := Var.c k0
          have f0 := Var.f k0
          have K0 := Lib.hid k0
          clear k0
          go_wp2
          refine post_world ?_
          intro Wf hWf
          have kf : Var Wf (w.heap.size + 1 + 1) (bif s then sgV P u else 0) := by rw [hWf]; exact Var.put4 K0.out _
          have hbf : Below w.heap.size w Wf := by rw [hWf]; exact below_set4 hbb (by omega) _ _ _ _
          have c := Var.c kf
          clear hWf c0 f0
          simp [bodyPost, results, Tryd.results32, go_sem, c]
          exact hbf

theorem mul_spec {a b : Int} (ia : InI a) (ib : InI b) (u : Bool) (hu : (ng a != ng b) = u) (P : Int) (hP : sz a * sz b = P) :
    (decide (P < b256) && sgB P u) = okI (a * b) ∧ (bif u then -P else P) = a * b ∧ 0 ≤ P := by
  have ha := sz_in ia
  have hb := sz_in ib
  have na := ng_in ia
  have nb := ng_in ib
  have hp0 : 0 ≤ P := by rw [← hP, ha, hb]; exact Int.mul_nonneg (by omega) (by omega)
  have hv : (bif u then -P else P) = a * b := by
    rw [← hu, ← hP, ha, hb, na, nb]
    rcases Int.lt_or_le a 0 with h1 | h1 <;> rcases Int.lt_or_le b 0 with h2 | h2
    · rw [Int.ofNat_natAbs_of_nonpos (by omega), Int.ofNat_natAbs_of_nonpos (by omega)]; simp [h1, h2, Int.neg_mul_neg]
    · rw [Int.ofNat_natAbs_of_nonpos (by omega), Int.natAbs_of_nonneg h2]; simp [h1, Int.not_lt.2 h2, Int.neg_mul]
    · rw [Int.natAbs_of_nonneg h1, Int.ofNat_natAbs_of_nonpos (by omega)]; simp [h2, Int.not_lt.2 h1, Int.mul_neg]
    · rw [Int.natAbs_of_nonneg h1, Int.natAbs_of_nonneg h2]; simp [Int.not_lt.2 h1, Int.not_lt.2 h2]
  refine ⟨?_, hv, hp0⟩
  rw [← hv]
  rw [Bool.eq_iff_iff]
  unfold okI
  rw [Bool.and_eq_true, decide_eq_true_iff, decide_eq_true_iff]
  unfold sgB InI
  cases u
  · rw [cond_false, cond_false, Bool.not_eq_true', ← Bool.not_eq_true, ng_iff]
    unfold b255 b256 at *; omega
  · rw [cond_true, cond_true, Bool.or_eq_true, ng_iff, eq4_0, decide_eq_true_iff]
    unfold b255 b256 at *; omega

theorem Mul_ok (x y : Int) (w : World) (ix : InI x) (iy : InI y) : Calls Tryd.prog 32 #[wI x, wI y] w fun e w' => e = .returned (.tuple #[wI (bif okI (x * y) then x * y else 0), .bool (okI (x * y))]) ∧ Below w.heap.size w w' := by
  obtain ⟨u, hu⟩ : ∃ u, (ng x != ng y) = u := ⟨_, rfl⟩
  obtain ⟨P, hP⟩ : ∃ P, sz x * sz y = P := ⟨_, rfl⟩
  obtain ⟨h1, h2, h3⟩ := mul_spec ix iy u hu P hP
  have b1 := sz_bd ix
  have b2 := sz_bd iy
  have e1 : sz x % b256 = sz x := Int.emod_eq_of_lt b1.1 (by unfold b255 b256 at *; omega)
  have e2 : sz y % b256 = sz y := Int.emod_eq_of_lt b2.1 (by unfold b255 b256 at *; omega)
  have T := Mul_go x y w u (by rw [← hu]; cases ng x <;> cases ng y <;> rfl) P (by rw [e1, e2]; exact hP) _ rfl _ rfl
  rw [h1] at T
  unfold sgV at T
  rw [h2] at T
  exact T
theorem Mul_is (x y : Int) (o : Bool) (ho : okI (x * y) = o) (p : Int) (hp : (bif o then x * y else 0) = p) (w : World) (ix : InI x) (iy : InI y) :
    Calls Tryd.prog 32 #[wI x, wI y] w fun e w' => e = .returned (.tuple #[wI p, .bool o]) ∧ Below w.heap.size w w' := by
  subst ho; subst hp; exact Mul_ok x y w ix iy
theorem Add_is (x y : Int) (o : Bool) (ho : okI (x + y) = o) (p : Int) (hp : (bif o then x + y else 0) = p) (w : World) (ix : InI x) (iy : InI y) :
    Calls Tryd.prog 53 #[wI x, wI y] w fun e w' => e = .returned (.tuple #[wI p, .bool o]) ∧ Below w.heap.size w w' := by
  subst ho; subst hp; exact Add_ok x y w ix iy
theorem Sub_is (x y : Int) (o : Bool) (ho : okI (x - y) = o) (p : Int) (hp : (bif o then x - y else 0) = p) (w : World) (ix : InI x) (iy : InI y) :
    Calls Tryd.prog 52 #[wI x, wI y] w fun e w' => e = .returned (.tuple #[wI p, .bool o]) ∧ Below w.heap.size w w' := by
  subst ho; subst hp; exact Sub_ok x y w ix iy
end Go.Proofs.YtcfiemeknocgjaaDoor
