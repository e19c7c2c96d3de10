/- The walks of wide: Root. Conditions: the numbers are ints and numbers of 256 bits. -/
import Derived.Test.YtcfiemeknocgjaaDoorWrA
import Derived.Test.YtcfiemeknocgjaaDoorWrC
import Derived.Test.YtcfiemeknocgjaaDoorAwBD
import Derived.Test.YtcfiemeknocgjaaDoorAwLp
namespace Go.Proofs.YtcfiemeknocgjaaDoor
open Go.RowKit

def nga (x : Int) : Bool := decide (x < 0)
theorem ng_v (x : Int) (b : Bool) (h : nga x = b) (ix : InI x) (w : World) : Calls Tryd.prog 33 #[wI x] w fun e w' => e = .returned (.bool b) ∧ Below w.heap.size w w' :=
  negative_is x b ((ng_in ix).trans h) w

/-- the root, by halves -/
def rtB (a : Int) : Nat → Int → Int → Int
  | 0, l, _ => l
  | n + 1, l, h => if (l + h) / 2 * ((l + h) / 2) ≤ a then rtB a n ((l + h) / 2) h else rtB a n l ((l + h) / 2)
def IsRt (a r : Int) : Prop := 0 ≤ r ∧ r * r ≤ a ∧ a < (r + 1) * (r + 1)
theorem rtB_is (a : Int) : ∀ (n : Nat) (l h : Int), 0 ≤ l → l < h → h - l ≤ 2 ^ n → l * l ≤ a → a < h * h → IsRt a (rtB a n l h) := by
  intro n
  induction n with
  | zero =>
    intro l h h0 h1 h2 h3 h4
    have e : h = l + 1 := by simp at h2; omega
    subst e
    exact ⟨h0, h3, h4⟩
  | succ n ih =>
    intro l h h0 h1 h2 h3 h4
    have h2' : h - l ≤ 2 * 2 ^ n := by rw [Int.pow_succ] at h2; omega
    by_cases e : h = l + 1
    · have e2 : (l + h) / 2 = l := by omega
      unfold rtB
      rw [e2, if_pos h3]
      subst e
      have hp : (0 : Int) < 2 ^ n := Int.pow_pos (by decide)
      exact ih l (l + 1) h0 h1 (by omega) h3 h4
    · unfold rtB
      split
      · rename_i g; exact ih _ h (by omega) (by omega) (by omega) g h4
      · rename_i g; exact ih l _ h0 (by omega) (by omega) h3 (by omega)
theorem sq_le {m r : Int} (h0 : 0 ≤ m) (h : m ≤ r) : m * m ≤ r * r := Int.mul_le_mul h h h0 (by omega)
theorem rt_le {a r m : Int} (h : IsRt a r) (hm : 0 ≤ m) : m * m ≤ a ↔ m ≤ r := by
  obtain ⟨h0, h1, h2⟩ := h
  constructor
  · intro k
    rcases Int.lt_or_le r m with g | g
    · have := sq_le (show 0 ≤ r + 1 by omega) (show r + 1 ≤ m by omega); omega
    · exact g
  · intro k; have := sq_le hm k; omega
def rtv (a : Int) : Int := bif decide (a < 0) then 0 else rtB a 128 0 340282366920938463463374607431768211456
def rtk (a : Int) : Bool := bif decide (a < 0) then false else true
theorem rtv_is {a : Int} (h : InI a) (h0 : 0 ≤ a) : IsRt a (rtv a) := by
  unfold rtv
  rw [decide_eq_false (show ¬ a < 0 by omega)]
  exact rtB_is a 128 0 _ (by decide) (by decide) (by decide) (by omega) (by unfold InI b255 at h; omega)
/-- where the search stands -/
def RtI (a r l h : Int) : Prop := IsRt a r ∧ 0 ≤ l ∧ l ≤ r ∧ r < h ∧ h ≤ 340282366920938463463374607431768211456
theorem RtI.begin {a r : Int} (h : IsRt a r) (ia : InI a) : RtI a r 0 340282366920938463463374607431768211456 := by
  refine ⟨h, by omega, h.1, ?_, by omega⟩
  have := (rt_le h (m := 340282366920938463463374607431768211456) (by omega)).2
  unfold InI b255 at ia
  omega
theorem RtI.step {a r l h m : Int} (k : RtI a r l h) (e : (l + h) / 2 = m) (hm : eq4 (wd0 m) (wd1 m) (wd2 m) (wd3 m) (wd0 l) (wd1 l) (wd2 l) (wd3 l) = false) : l < m ∧ m < h := by
  obtain ⟨k1, k2, k3, k4, k5⟩ := k
  have : m ≠ l := fun g => by
    subst g
    have e2 : eq4 (wd0 m) (wd1 m) (wd2 m) (wd3 m) (wd0 m) (wd1 m) (wd2 m) (wd3 m) = decide (m % b256 = m % b256) := eq4_wd m m
    rw [e2] at hm; simp at hm
  omega
theorem RtI.p {a r l h : Int} (k : RtI a r l h) : 0 ≤ l ∧ 0 ≤ h ∧ l + h < b256 := by obtain ⟨_, _, _, _, _⟩ := k; unfold b256; omega
theorem RtI.il {a r l h : Int} (k : RtI a r l h) : InI l := by obtain ⟨_, _, _, _, _⟩ := k; unfold InI b255; omega
theorem RtI.ih {a r l h : Int} (k : RtI a r l h) : InI h := by obtain ⟨_, _, _, _, _⟩ := k; unfold InI b255; omega
theorem RtI.im {a r l h m : Int} (k : RtI a r l h) (e : (l + h) / 2 = m) : InI m := by obtain ⟨_, _, _, _, _⟩ := k; unfold InI b255; omega
theorem RtI.low {a r l h m : Int} (k : RtI a r l h) (e : (l + h) / 2 = m) (hm : m * m ≤ a) : RtI a r m h := by
  obtain ⟨k1, k2, k3, k4, k5⟩ := k
  exact ⟨k1, by omega, (rt_le k1 (by omega)).1 hm, k4, k5⟩
theorem RtI.high {a r l h m : Int} (k : RtI a r l h) (e : (l + h) / 2 = m) (hm : ¬ m * m ≤ a) : RtI a r l m := by
  obtain ⟨k1, k2, k3, k4, k5⟩ := k
  have := mt (rt_le k1 (by omega : 0 ≤ m)).2 hm
  exact ⟨k1, by omega, k3, by omega, by omega⟩
theorem RtI.fin {a r l h m : Int} (k : RtI a r l h) (e : (l + h) / 2 = m) (hm : eq4 (wd0 m) (wd1 m) (wd2 m) (wd3 m) (wd0 l) (wd1 l) (wd2 l) (wd3 l) = true) : l = r := by
  have k' := k
  obtain ⟨k1, k2, k3, k4, k5⟩ := k
  have e2 : eq4 (wd0 m) (wd1 m) (wd2 m) (wd3 m) (wd0 l) (wd1 l) (wd2 l) (wd3 l) = decide (m % b256 = l % b256) := eq4_wd m l
  rw [e2] at hm
  have := of_decide_eq_true hm
  have hp := k'.p
  unfold b256 at *
  omega
theorem blk_eq {w : World} {b : Nat} {c c' : Array Value} {t : TypeId} (h : Blk w b c t) (e : c = c') : Blk w b c' t := e ▸ h
theorem hpp {x y : Int} (h : 0 ≤ x ∧ 0 ≤ y ∧ x + y < b256) : 0 ≤ x + y ∧ x + y < b256 := ⟨by omega, h.2.2⟩
theorem plus_v (x y : Int) (h : 0 ≤ x ∧ 0 ≤ y ∧ x + y < b256) (w : World) : Calls Tryd.prog 34 #[wI x, wI y, .int .u64 0] w fun e w' => e = .returned (wI (x + y)) ∧ Below w.heap.size w w' := by
  have := plus_any x y 0 w (by omega) (by omega)
  rw [Int.add_zero] at this
  exact this
theorem halved_v (x m : Int) (e : x / 2 = m) (h : 0 ≤ x ∧ x < b256) (w : World) : Calls Tryd.prog 43 #[wI x] w fun e w' => e = .returned (wI m) ∧ Below w.heap.size w w' := e ▸ halved_any x h.1 h.2 w
theorem ok_sq {m : Int} : okI (m * m) = false → ∀ a, InI a → ¬ m * m ≤ a := fun h a ia k => by
  have h0 : 0 ≤ m * m := sqn m
  unfold okI at h
  have := of_decide_eq_false h
  unfold InI b255 at *; omega
theorem mulv_okb {x y p : Int} (h : okI (x * y) = true) (e : mulv x y = p) : x * y = p := by rw [← e]; unfold mulv; rw [h]; rfl
theorem cmp_le_iff {x y c : Int} (h : cmpI x y = c) : c ≤ 0 ↔ x ≤ y := by
  rw [← h]
  rcases Int.lt_trichotomy x y with g | g | g
  · rw [cmpI_lt g]; omega
  · rw [g, cmpI_eq]; omega
  · rw [cmpI_gt g]; omega

set_option maxRecDepth 100000 in
set_option maxHeartbeats 4000000 in

theorem Root_0 (a : Int)  (R0 : Int) (R1 : Bool) (hR0 : (fun _ => 0) a = R0) (hR1 : (fun _ => false) a = R1) (hP0 : nga a = true) (_ia : InI a)  (w : World)  :
    Calls Tryd.prog 22 #[.agg #[.int .u64 (wd0 a), .int .u64 (wd1 a), .int .u64 (wd2 a), .int .u64 (wd3 a)]] w fun e w' => e = .returned (.tuple #[.agg #[.int .u64 (wd0 R0), .int .u64 (wd1 R0), .int .u64 (wd2 R0), .int .u64 (wd3 R0)], .bool R1]) ∧ Below w.heap.size w w' := by

  have HP0 := Lib.hid hP0
  clear hP0
  have HR0 := Lib.hid hR0
  clear hR0
  have HR1 := Lib.hid hR1
  clear hR1
  go_enter Tryd.func22, Tryd.ntmps22
  go_wp2_with fail
  first | refine calls_w ?_ | refine name_world ?_ | refine list_world ?_ | refine post_world ?_
  intro V1 hV1
  have hn : Below w.heap.size w V1 := by rw [hV1]; exact below_a2 _ _ _
  have nhb0 := hn
  have k1 : Blk V1 w.heap.size #[.int .u64 (wd0 a), .int .u64 (wd1 a), .int .u64 (wd2 a), .int .u64 (wd3 a)] 24 := by rw [hV1]; exact ((Blk.new _ _ _).alloc _)
  have k2 : Blk V1 (w.heap.size + 1) #[.int .u64 0, .int .u64 0, .int .u64 0, .int .u64 0] 24 := by rw [hV1]; exact (Blk.new1 _ _ _ _)
  clear hV1
  have hb0 := nhb0
  clear nhb0
  refine (ng_v a true HP0.out _ia _).mono ?_
  rintro e U2 ⟨rfl, hn⟩
  replace k1 := k1.of hn
  replace k2 := k2.of hn
  replace hb0 := hb0.trans (hn.mono hb0.size)
  clear hn
  have c2_0 : U2.cell? ⟨(w.heap.size + 1), 0, none⟩ = some (.int .u64 0) := k2.cell 0
  have c2_1 : U2.cell? ⟨(w.heap.size + 1), 1, none⟩ = some (.int .u64 0) := k2.cell 1
  have c2_2 : U2.cell? ⟨(w.heap.size + 1), 2, none⟩ = some (.int .u64 0) := k2.cell 2
  have c2_3 : U2.cell? ⟨(w.heap.size + 1), 3, none⟩ = some (.int .u64 0) := k2.cell 3
  have f2_0 := k2.free 0
  have f2_1 := k2.free 1
  have f2_2 := k2.free 2
  have f2_3 := k2.free 3
  have l2 := k2.lt
  have e0 : 0 = R0 := by rw [← HR0.out]; (try rw [HP0.out]); all_goals first | rfl | simp
  have e1 : false = R1 := by rw [← HR1.out]; (try rw [HP0.out]); all_goals first | rfl | simp
  subst e0
  subst e1
  go_wp2
  clear c2_0 c2_1 c2_2 c2_3 f2_0 f2_1 f2_2 f2_3 l2
  first | refine post_world ?_
  intro V3 hV3
  have D1 := Lib.hid k1.lt
  have D2 := Lib.hid k2.lt
  have D3 := Lib.hid hb0.size
  clear k1
  have nk2 : Blk V3 (w.heap.size + 1) #[.int .u64 0, .int .u64 0, .int .u64 0, .int .u64 0] 24 := by rw [hV3]; exact (blk_full _ [.int .u64 0, .int .u64 0, .int .u64 0, .int .u64 0] k2 rfl)
  have nhb0 : Below w.heap.size w V3 := by rw [hV3]; exact (blw_setL hb0 (by omega) 0 [.int .u64 0, .int .u64 0, .int .u64 0, .int .u64 0])
  clear k2
  clear hb0
  clear hV3
  have k2 := nk2
  clear nk2
  have hb0 := nhb0
  clear nhb0
  have g2_0 : V3.cell? ⟨(w.heap.size + 1), 0, none⟩ = some (.int .u64 0) := k2.cell 0
  have g2_1 : V3.cell? ⟨(w.heap.size + 1), 1, none⟩ = some (.int .u64 0) := k2.cell 1
  have g2_2 : V3.cell? ⟨(w.heap.size + 1), 2, none⟩ = some (.int .u64 0) := k2.cell 2
  have g2_3 : V3.cell? ⟨(w.heap.size + 1), 3, none⟩ = some (.int .u64 0) := k2.cell 3
  clear k2
  simp [bodyPost, results, Tryd.results22, go_sem, g2_0, g2_1, g2_2, g2_3, wd0_0, wd1_0, wd2_0, wd3_0]
  first | exact hb0 | exact ⟨rfl, hb0⟩

set_option maxRecDepth 100000 in
set_option maxHeartbeats 4000000 in

theorem Root_1 (a : Int)  (R0 : Int) (R1 : Bool) (hR0 : (fun _ => rtv a) a = R0) (hR1 : (fun _ => true) a = R1) (hP0 : nga a = false) (_irt : IsRt a (rtv a)) (_ia : InI a)  (w : World)  :
    Calls Tryd.prog 22 #[.agg #[.int .u64 (wd0 a), .int .u64 (wd1 a), .int .u64 (wd2 a), .int .u64 (wd3 a)]] w fun e w' => e = .returned (.tuple #[.agg #[.int .u64 (wd0 R0), .int .u64 (wd1 R0), .int .u64 (wd2 R0), .int .u64 (wd3 R0)], .bool R1]) ∧ Below w.heap.size w w' := by

  have HP0 := Lib.hid hP0
  clear hP0
  have HR0 := Lib.hid hR0
  clear hR0
  have HR1 := Lib.hid hR1
  clear hR1
  go_enter Tryd.func22, Tryd.ntmps22
  go_wp2_with fail
  first | refine calls_w ?_ | refine name_world ?_ | refine list_world ?_ | refine post_world ?_
  intro V1 hV1
  have hn : Below w.heap.size w V1 := by rw [hV1]; exact below_a2 _ _ _
  have nhb0 := hn
  have k1 : Blk V1 w.heap.size #[.int .u64 (wd0 a), .int .u64 (wd1 a), .int .u64 (wd2 a), .int .u64 (wd3 a)] 24 := by rw [hV1]; exact ((Blk.new _ _ _).alloc _)
  have k2 : Blk V1 (w.heap.size + 1) #[.int .u64 0, .int .u64 0, .int .u64 0, .int .u64 0] 24 := by rw [hV1]; exact (Blk.new1 _ _ _ _)
  clear hV1
  have hb0 := nhb0
  clear nhb0
  refine (ng_v a false HP0.out _ia _).mono ?_
  rintro e U2 ⟨rfl, hn⟩
  replace k1 := k1.of hn
  replace k2 := k2.of hn
  replace hb0 := hb0.trans (hn.mono hb0.size)
  clear hn
  go_wp2_with fail
  first | refine name_world ?_
  intro V3 hV3
  have D1 := Lib.hid k1.lt
  have D2 := Lib.hid k2.lt
  have D3 := Lib.hid hb0.size
  have hn : Below U2.heap.size U2 V3 := by rw [hV3]; exact below_a2 _ _ _
  have nk1 := k1.of hn
  have nk2 := k2.of hn
  have nhb0 := hb0.trans (hn.mono hb0.size)
  clear hn
  have k3 : Blk V3 U2.heap.size #[.int .u64 0, .int .u64 0, .int .u64 0, .int .u64 0] 24 := by rw [hV3]; exact ((Blk.new _ _ _).alloc _)
  have k4 : Blk V3 (U2.heap.size + 1) #[.int .u64 0, .int .u64 0, .int .u64 1, .int .u64 0] 24 := by rw [hV3]; exact (Blk.new1 _ _ _ _)
  clear k1 k2
  clear hb0
  clear hV3
  have k1 := nk1
  clear nk1
  have k2 := nk2
  clear nk2
  have hb0 := nhb0
  clear nhb0
  go_loopg [] (340282366920938463463374607431768211456 : Nat) (fun gk_  wr => ∃ (l : Int) (h : Int), Hid (RtI a (rtv a) l h ∧ h - l ≤ (gk_ : Int)) ∧ Blk wr w.heap.size #[.int .u64 (wd0 a), .int .u64 (wd1 a), .int .u64 (wd2 a), .int .u64 (wd3 a)] 24 ∧ Blk wr (w.heap.size + 1) #[.int .u64 0, .int .u64 0, .int .u64 0, .int .u64 0] 24 ∧ Blk wr U2.heap.size #[.int .u64 (wd0 l), .int .u64 (wd1 l), .int .u64 (wd2 l), .int .u64 (wd3 l)] 24 ∧ Blk wr (U2.heap.size + 1) #[.int .u64 (wd0 h), .int .u64 (wd1 h), .int .u64 (wd2 h), .int .u64 (wd3 h)] 24 ∧ Below w.heap.size w wr)
  case atStart =>
    have HIn : RtI a (rtv a) 0 340282366920938463463374607431768211456 ∧ 340282366920938463463374607431768211456 - 0 ≤ ((340282366920938463463374607431768211456 : Nat) : Int) := by
      exact ⟨RtI.begin _irt _ia, by decide⟩
    exact ⟨0, 340282366920938463463374607431768211456, Lib.hid HIn, k1, k2, (blk_eq k3 (by kernel_rfl)), (blk_eq k4 (by kernel_rfl)), hb0⟩
  case round =>
    rename World => W1_
    rename Nat => gk1
    clear k1 k2 k3 k4
    clear hb0
    obtain ⟨l, h, HI1, k1, k2, k3, k4, hb0⟩ := hrel
    have c3_0 : W1_.cell? ⟨U2.heap.size, 0, none⟩ = some (.int .u64 (wd0 l)) := k3.cell 0
    have c3_1 : W1_.cell? ⟨U2.heap.size, 1, none⟩ = some (.int .u64 (wd1 l)) := k3.cell 1
    have c3_2 : W1_.cell? ⟨U2.heap.size, 2, none⟩ = some (.int .u64 (wd2 l)) := k3.cell 2
    have c3_3 : W1_.cell? ⟨U2.heap.size, 3, none⟩ = some (.int .u64 (wd3 l)) := k3.cell 3
    have l3 := k3.lt
    have c4_0 : W1_.cell? ⟨(U2.heap.size + 1), 0, none⟩ = some (.int .u64 (wd0 h)) := k4.cell 0
    have c4_1 : W1_.cell? ⟨(U2.heap.size + 1), 1, none⟩ = some (.int .u64 (wd1 h)) := k4.cell 1
    have c4_2 : W1_.cell? ⟨(U2.heap.size + 1), 2, none⟩ = some (.int .u64 (wd2 h)) := k4.cell 2
    have c4_3 : W1_.cell? ⟨(U2.heap.size + 1), 3, none⟩ = some (.int .u64 (wd3 h)) := k4.cell 3
    have l4 := k4.lt
    go_wp2_with fail
    clear c3_0 c3_1 c3_2 c3_3 l3 c4_0 c4_1 c4_2 c4_3 l4
    refine (args_eq (a' := #[.agg #[.int .u64 (wd0 l), .int .u64 (wd1 l), .int .u64 (wd2 l), .int .u64 (wd3 l)], .agg #[.int .u64 (wd0 h), .int .u64 (wd1 h), .int .u64 (wd2 h), .int .u64 (wd3 h)], .int .u64 0]) (plus_v l h HI1.out.1.p _) (by kernel_rfl)).mono ?_
    rintro e U4 ⟨rfl, hn⟩
    replace k1 := k1.of hn
    replace k2 := k2.of hn
    replace k3 := k3.of hn
    replace k4 := k4.of hn
    replace hb0 := hb0.trans (hn.mono hb0.size)
    clear hn
    go_wp2_with fail
    obtain ⟨r1, hr1⟩ : ∃ o_o : Int, (l + h) / 2 = o_o := ⟨_, rfl⟩
    have Hr1 := Lib.hid hr1
    clear hr1
    refine (halved_v (l + h) r1 Hr1.out (hpp HI1.out.1.p) _).mono ?_
    rintro e U5 ⟨rfl, hn⟩
    replace k1 := k1.of hn
    replace k2 := k2.of hn
    replace k3 := k3.of hn
    replace k4 := k4.of hn
    replace hb0 := hb0.trans (hn.mono hb0.size)
    clear hn
    obtain ⟨z2, hz2⟩ : ∃ o_o : Bool, eq4 (wd0 r1) (wd1 r1) (wd2 r1) (wd3 r1) (wd0 l) (wd1 l) (wd2 l) (wd3 l) = o_o := ⟨_, rfl⟩
    cases z2
    · have c3_0 : U5.cell? ⟨U2.heap.size, 0, none⟩ = some (.int .u64 (wd0 l)) := k3.cell 0
      have c3_1 : U5.cell? ⟨U2.heap.size, 1, none⟩ = some (.int .u64 (wd1 l)) := k3.cell 1
      have c3_2 : U5.cell? ⟨U2.heap.size, 2, none⟩ = some (.int .u64 (wd2 l)) := k3.cell 2
      have c3_3 : U5.cell? ⟨U2.heap.size, 3, none⟩ = some (.int .u64 (wd3 l)) := k3.cell 3
      have l3 := k3.lt
      go_wp2_with fail
      clear c3_0 c3_1 c3_2 c3_3 l3
      first | refine calls_w ?_ | refine name_world ?_ | refine list_world ?_ | refine post_world ?_
      intro V6 hV6
      have D4 := Lib.hid k1.lt
      have D5 := Lib.hid k2.lt
      have D6 := Lib.hid k3.lt
      have D7 := Lib.hid k4.lt
      have D8 := Lib.hid hb0.size
      have hn : Below U5.heap.size U5 V6 := by rw [hV6]; exact below_a1 _ _
      have nk1 := k1.of hn
      have nk2 := k2.of hn
      have nk3 := k3.of hn
      have nk4 := k4.of hn
      have nhb0 := hb0.trans (hn.mono hb0.size)
      clear hn
      have k6 : Blk V6 U5.heap.size #[.int .u64 (wd0 r1), .int .u64 (wd1 r1), .int .u64 (wd2 r1), .int .u64 (wd3 r1)] 24 := by rw [hV6]; exact (Blk.new _ _ _)
      clear k1 k2 k3 k4
      clear hb0
      clear hV6
      have k1 := nk1
      clear nk1
      have k2 := nk2
      clear nk2
      have k3 := nk3
      clear nk3
      have k4 := nk4
      clear nk4
      have hb0 := nhb0
      clear nhb0
      obtain ⟨r3, hr3⟩ : ∃ o_o : Int, mulv r1 r1 = o_o := ⟨_, rfl⟩
      have Hr3 := Lib.hid hr3
      clear hr3
      obtain ⟨z4, hz4⟩ : ∃ o_o : Bool, okI (r1 * r1) = o_o := ⟨_, rfl⟩
      have Hz4 := Lib.hid hz4
      clear hz4
      refine (Mul_v r1 r1 r3 z4 Hr3.out Hz4.out (HI1.out.1.im Hr1.out) (HI1.out.1.im Hr1.out) _).mono ?_
      rintro e U7 ⟨rfl, hn⟩
      replace k1 := k1.of hn
      replace k2 := k2.of hn
      replace k3 := k3.of hn
      replace k4 := k4.of hn
      replace k6 := k6.of hn
      replace hb0 := hb0.trans (hn.mono hb0.size)
      clear hn
      cases z4
      · have c4_0 : U7.cell? ⟨(U2.heap.size + 1), 0, none⟩ = some (.int .u64 (wd0 h)) := k4.cell 0
        have c4_1 : U7.cell? ⟨(U2.heap.size + 1), 1, none⟩ = some (.int .u64 (wd1 h)) := k4.cell 1
        have c4_2 : U7.cell? ⟨(U2.heap.size + 1), 2, none⟩ = some (.int .u64 (wd2 h)) := k4.cell 2
        have c4_3 : U7.cell? ⟨(U2.heap.size + 1), 3, none⟩ = some (.int .u64 (wd3 h)) := k4.cell 3
        have f4_0 := k4.free 0
        have f4_1 := k4.free 1
        have f4_2 := k4.free 2
        have f4_3 := k4.free 3
        have l4 := k4.lt
        have l4_0 : U2.heap.size < U7.heap.size := by have := k4.lt; omega
        have c6_0 : U7.cell? ⟨U5.heap.size, 0, none⟩ = some (.int .u64 (wd0 r1)) := k6.cell 0
        have c6_1 : U7.cell? ⟨U5.heap.size, 1, none⟩ = some (.int .u64 (wd1 r1)) := k6.cell 1
        have c6_2 : U7.cell? ⟨U5.heap.size, 2, none⟩ = some (.int .u64 (wd2 r1)) := k6.cell 2
        have c6_3 : U7.cell? ⟨U5.heap.size, 3, none⟩ = some (.int .u64 (wd3 r1)) := k6.cell 3
        have l6 := k6.lt
        have p6_4 : U5.heap.size ≠ (U2.heap.size + 1) := (by have := D7.out; omega)
        go_wp2_with fail
        clear c4_0 c4_1 c4_2 c4_3 f4_0 f4_1 f4_2 f4_3 l4 l4_0 c6_0 c6_1 c6_2 c6_3 l6 p6_4
        first | refine k_world ?_
        intro V8 hV8
        have D9 := Lib.hid k1.lt
        have D10 := Lib.hid k2.lt
        have D11 := Lib.hid k3.lt
        have D12 := Lib.hid k4.lt
        have D13 := Lib.hid k6.lt
        have D14 := Lib.hid hb0.size
        have nk1 : Blk V8 w.heap.size #[.int .u64 (wd0 a), .int .u64 (wd1 a), .int .u64 (wd2 a), .int .u64 (wd3 a)] 24 := by rw [hV8]; exact ((blk_setL k1 (by have := D1.out; omega) 0 [.int .u64 (wd0 r1), .int .u64 (wd1 r1), .int .u64 (wd2 r1), .int .u64 (wd3 r1)]).alloc _)
        have nk2 : Blk V8 (w.heap.size + 1) #[.int .u64 0, .int .u64 0, .int .u64 0, .int .u64 0] 24 := by rw [hV8]; exact ((blk_setL k2 (by have := D2.out; omega) 0 [.int .u64 (wd0 r1), .int .u64 (wd1 r1), .int .u64 (wd2 r1), .int .u64 (wd3 r1)]).alloc _)
        have nk3 : Blk V8 U2.heap.size #[.int .u64 (wd0 l), .int .u64 (wd1 l), .int .u64 (wd2 l), .int .u64 (wd3 l)] 24 := by rw [hV8]; exact ((blk_setL k3 (by omega) 0 [.int .u64 (wd0 r1), .int .u64 (wd1 r1), .int .u64 (wd2 r1), .int .u64 (wd3 r1)]).alloc _)
        have nk4 : Blk V8 (U2.heap.size + 1) #[.int .u64 (wd0 r1), .int .u64 (wd1 r1), .int .u64 (wd2 r1), .int .u64 (wd3 r1)] 24 := by rw [hV8]; exact ((blk_full _ [.int .u64 (wd0 r1), .int .u64 (wd1 r1), .int .u64 (wd2 r1), .int .u64 (wd3 r1)] k4 rfl).alloc _)
        have nk6 : Blk V8 U5.heap.size #[.int .u64 (wd0 r1), .int .u64 (wd1 r1), .int .u64 (wd2 r1), .int .u64 (wd3 r1)] 24 := by rw [hV8]; exact ((blk_setL k6 (by have := D7.out; omega) 0 [.int .u64 (wd0 r1), .int .u64 (wd1 r1), .int .u64 (wd2 r1), .int .u64 (wd3 r1)]).alloc _)
        have nhb0 : Below w.heap.size w V8 := by rw [hV8]; exact (blw_al (blw_setL hb0 (by have := D3.out; omega) 0 [.int .u64 (wd0 r1), .int .u64 (wd1 r1), .int .u64 (wd2 r1), .int .u64 (wd3 r1)]) _)
        have k8 : Blk V8 U7.heap.size #[.int .u64 (wd0 r3), .int .u64 (wd1 r3), .int .u64 (wd2 r3), .int .u64 (wd3 r3)] 24 := by rw [hV8]; exact (Blk.newAt _ _ (by simp [size_setL]) _ _)
        clear k1 k2 k3 k4 k6
        clear hb0
        clear hV8
        have k1 := nk1
        clear nk1
        have k2 := nk2
        clear nk2
        have k3 := nk3
        clear nk3
        have k4 := nk4
        clear nk4
        have k6 := nk6
        clear nk6
        have hb0 := nhb0
        clear nhb0
        have HIn : RtI a (rtv a) l r1 ∧ r1 - l ≤ (((r1 - l).toNat) : Int) := by
          have fin : RtI a (rtv a) l r1 := by
            first
              | exact HI1.out.1.high Hr1.out (ok_sq Hz4.out _ _ia)
              | exact HI1.out.1.high Hr1.out (fun g => of_decide_eq_false hz6 ((cmp_le_iff Hr5.out).2 (by rw [← mulv_okb Hz4.out Hr3.out]; exact g)))
              | exact HI1.out.1.low Hr1.out (by rw [mulv_okb Hz4.out Hr3.out]; exact (cmp_le_iff Hr5.out).1 (of_decide_eq_true hz6))
          exact ⟨fin, by omega⟩
        go_roundg ((r1 - l).toNat)
        case measure =>
          have q_ := HI1.out.1.step Hr1.out hz2
          have q2_ := HI1.out.2
          omega
        case rel => exact ⟨l, r1, Lib.hid HIn, k1, k2, k3, k4, hb0⟩
      · have c1_0 : U7.cell? ⟨w.heap.size, 0, none⟩ = some (.int .u64 (wd0 a)) := k1.cell 0
        have c1_1 : U7.cell? ⟨w.heap.size, 1, none⟩ = some (.int .u64 (wd1 a)) := k1.cell 1
        have c1_2 : U7.cell? ⟨w.heap.size, 2, none⟩ = some (.int .u64 (wd2 a)) := k1.cell 2
        have c1_3 : U7.cell? ⟨w.heap.size, 3, none⟩ = some (.int .u64 (wd3 a)) := k1.cell 3
        have l1 := k1.lt
        go_wp2_with fail
        clear c1_0 c1_1 c1_2 c1_3 l1
        first | refine calls_w ?_ | refine name_world ?_ | refine list_world ?_ | refine post_world ?_
        intro V9 hV9
        have D15 := Lib.hid k1.lt
        have D16 := Lib.hid k2.lt
        have D17 := Lib.hid k3.lt
        have D18 := Lib.hid k4.lt
        have D19 := Lib.hid k6.lt
        have D20 := Lib.hid hb0.size
        have hn : Below U7.heap.size U7 V9 := by rw [hV9]; exact below_a1 _ _
        have nk1 := k1.of hn
        have nk2 := k2.of hn
        have nk3 := k3.of hn
        have nk4 := k4.of hn
        have nk6 := k6.of hn
        have nhb0 := hb0.trans (hn.mono hb0.size)
        clear hn
        have k9 : Blk V9 U7.heap.size #[.int .u64 (wd0 r3), .int .u64 (wd1 r3), .int .u64 (wd2 r3), .int .u64 (wd3 r3)] 24 := by rw [hV9]; exact (Blk.new _ _ _)
        clear k1 k2 k3 k4 k6
        clear hb0
        clear hV9
        have k1 := nk1
        clear nk1
        have k2 := nk2
        clear nk2
        have k3 := nk3
        clear nk3
        have k4 := nk4
        clear nk4
        have k6 := nk6
        clear nk6
        have hb0 := nhb0
        clear nhb0
        obtain ⟨r5, hr5⟩ : ∃ o_o : Int, cmpI r3 a = o_o := ⟨_, rfl⟩
        have Hr5 := Lib.hid hr5
        clear hr5
        refine (Cmp_v r3 a r5 Hr5.out (Hr3.out ▸ mulv_in _ _) _ia _).mono ?_
        rintro e U10 ⟨rfl, hn⟩
        replace k1 := k1.of hn
        replace k2 := k2.of hn
        replace k3 := k3.of hn
        replace k4 := k4.of hn
        replace k6 := k6.of hn
        replace k9 := k9.of hn
        replace hb0 := hb0.trans (hn.mono hb0.size)
        clear hn
        obtain ⟨z6, hz6⟩ : ∃ o_o : Bool, decide (r5 ≤ 0) = o_o := ⟨_, rfl⟩
        cases z6
        · have c4_0 : U10.cell? ⟨(U2.heap.size + 1), 0, none⟩ = some (.int .u64 (wd0 h)) := k4.cell 0
          have c4_1 : U10.cell? ⟨(U2.heap.size + 1), 1, none⟩ = some (.int .u64 (wd1 h)) := k4.cell 1
          have c4_2 : U10.cell? ⟨(U2.heap.size + 1), 2, none⟩ = some (.int .u64 (wd2 h)) := k4.cell 2
          have c4_3 : U10.cell? ⟨(U2.heap.size + 1), 3, none⟩ = some (.int .u64 (wd3 h)) := k4.cell 3
          have f4_0 := k4.free 0
          have f4_1 := k4.free 1
          have f4_2 := k4.free 2
          have f4_3 := k4.free 3
          have l4 := k4.lt
          have c6_0 : U10.cell? ⟨U5.heap.size, 0, none⟩ = some (.int .u64 (wd0 r1)) := k6.cell 0
          have c6_1 : U10.cell? ⟨U5.heap.size, 1, none⟩ = some (.int .u64 (wd1 r1)) := k6.cell 1
          have c6_2 : U10.cell? ⟨U5.heap.size, 2, none⟩ = some (.int .u64 (wd2 r1)) := k6.cell 2
          have c6_3 : U10.cell? ⟨U5.heap.size, 3, none⟩ = some (.int .u64 (wd3 r1)) := k6.cell 3
          have l6 := k6.lt
          have p6_4 : U5.heap.size ≠ (U2.heap.size + 1) := (by have := D7.out; omega)
          go_wp2_with fail
          clear c4_0 c4_1 c4_2 c4_3 f4_0 f4_1 f4_2 f4_3 l4 c6_0 c6_1 c6_2 c6_3 l6 p6_4
          first | refine k_world ?_
          intro V11 hV11
          have D21 := Lib.hid k1.lt
          have D22 := Lib.hid k2.lt
          have D23 := Lib.hid k3.lt
          have D24 := Lib.hid k4.lt
          have D25 := Lib.hid k6.lt
          have D26 := Lib.hid k9.lt
          have D27 := Lib.hid hb0.size
          have nk1 : Blk V11 w.heap.size #[.int .u64 (wd0 a), .int .u64 (wd1 a), .int .u64 (wd2 a), .int .u64 (wd3 a)] 24 := by rw [hV11]; exact (blk_setL k1 (by have := D1.out; omega) 0 [.int .u64 (wd0 r1), .int .u64 (wd1 r1), .int .u64 (wd2 r1), .int .u64 (wd3 r1)])
          have nk2 : Blk V11 (w.heap.size + 1) #[.int .u64 0, .int .u64 0, .int .u64 0, .int .u64 0] 24 := by rw [hV11]; exact (blk_setL k2 (by have := D2.out; omega) 0 [.int .u64 (wd0 r1), .int .u64 (wd1 r1), .int .u64 (wd2 r1), .int .u64 (wd3 r1)])
          have nk3 : Blk V11 U2.heap.size #[.int .u64 (wd0 l), .int .u64 (wd1 l), .int .u64 (wd2 l), .int .u64 (wd3 l)] 24 := by rw [hV11]; exact (blk_setL k3 (by omega) 0 [.int .u64 (wd0 r1), .int .u64 (wd1 r1), .int .u64 (wd2 r1), .int .u64 (wd3 r1)])
          have nk4 : Blk V11 (U2.heap.size + 1) #[.int .u64 (wd0 r1), .int .u64 (wd1 r1), .int .u64 (wd2 r1), .int .u64 (wd3 r1)] 24 := by rw [hV11]; exact (blk_full _ [.int .u64 (wd0 r1), .int .u64 (wd1 r1), .int .u64 (wd2 r1), .int .u64 (wd3 r1)] k4 rfl)
          have nk6 : Blk V11 U5.heap.size #[.int .u64 (wd0 r1), .int .u64 (wd1 r1), .int .u64 (wd2 r1), .int .u64 (wd3 r1)] 24 := by rw [hV11]; exact (blk_setL k6 (by have := D7.out; omega) 0 [.int .u64 (wd0 r1), .int .u64 (wd1 r1), .int .u64 (wd2 r1), .int .u64 (wd3 r1)])
          have nk9 : Blk V11 U7.heap.size #[.int .u64 (wd0 r3), .int .u64 (wd1 r3), .int .u64 (wd2 r3), .int .u64 (wd3 r3)] 24 := by rw [hV11]; exact (blk_setL k9 (by have := D18.out; omega) 0 [.int .u64 (wd0 r1), .int .u64 (wd1 r1), .int .u64 (wd2 r1), .int .u64 (wd3 r1)])
          have nhb0 : Below w.heap.size w V11 := by rw [hV11]; exact (blw_setL hb0 (by have := D3.out; omega) 0 [.int .u64 (wd0 r1), .int .u64 (wd1 r1), .int .u64 (wd2 r1), .int .u64 (wd3 r1)])
          clear k1 k2 k3 k4 k6 k9
          clear hb0
          clear hV11
          have k1 := nk1
          clear nk1
          have k2 := nk2
          clear nk2
          have k3 := nk3
          clear nk3
          have k4 := nk4
          clear nk4
          have k6 := nk6
          clear nk6
          have k9 := nk9
          clear nk9
          have hb0 := nhb0
          clear nhb0
          have HIn : RtI a (rtv a) l r1 ∧ r1 - l ≤ (((r1 - l).toNat) : Int) := by
            have fin : RtI a (rtv a) l r1 := by
              first
                | exact HI1.out.1.high Hr1.out (ok_sq Hz4.out _ _ia)
                | exact HI1.out.1.high Hr1.out (fun g => of_decide_eq_false hz6 ((cmp_le_iff Hr5.out).2 (by rw [← mulv_okb Hz4.out Hr3.out]; exact g)))
                | exact HI1.out.1.low Hr1.out (by rw [mulv_okb Hz4.out Hr3.out]; exact (cmp_le_iff Hr5.out).1 (of_decide_eq_true hz6))
            exact ⟨fin, by omega⟩
          go_roundg ((r1 - l).toNat)
          case measure =>
            have q_ := HI1.out.1.step Hr1.out hz2
            have q2_ := HI1.out.2
            omega
          case rel => exact ⟨l, r1, Lib.hid HIn, k1, k2, k3, k4, hb0⟩
        · have c3_0 : U10.cell? ⟨U2.heap.size, 0, none⟩ = some (.int .u64 (wd0 l)) := k3.cell 0
          have c3_1 : U10.cell? ⟨U2.heap.size, 1, none⟩ = some (.int .u64 (wd1 l)) := k3.cell 1
          have c3_2 : U10.cell? ⟨U2.heap.size, 2, none⟩ = some (.int .u64 (wd2 l)) := k3.cell 2
          have c3_3 : U10.cell? ⟨U2.heap.size, 3, none⟩ = some (.int .u64 (wd3 l)) := k3.cell 3
          have f3_0 := k3.free 0
          have f3_1 := k3.free 1
          have f3_2 := k3.free 2
          have f3_3 := k3.free 3
          have l3 := k3.lt
          have c6_0 : U10.cell? ⟨U5.heap.size, 0, none⟩ = some (.int .u64 (wd0 r1)) := k6.cell 0
          have c6_1 : U10.cell? ⟨U5.heap.size, 1, none⟩ = some (.int .u64 (wd1 r1)) := k6.cell 1
          have c6_2 : U10.cell? ⟨U5.heap.size, 2, none⟩ = some (.int .u64 (wd2 r1)) := k6.cell 2
          have c6_3 : U10.cell? ⟨U5.heap.size, 3, none⟩ = some (.int .u64 (wd3 r1)) := k6.cell 3
          have l6 := k6.lt
          have p6_3 : U5.heap.size ≠ U2.heap.size := (by have := D6.out; omega)
          go_wp2_with fail
          clear c3_0 c3_1 c3_2 c3_3 f3_0 f3_1 f3_2 f3_3 l3 c6_0 c6_1 c6_2 c6_3 l6 p6_3
          first | refine k_world ?_
          intro V12 hV12
          have D28 := Lib.hid k1.lt
          have D29 := Lib.hid k2.lt
          have D30 := Lib.hid k3.lt
          have D31 := Lib.hid k4.lt
          have D32 := Lib.hid k6.lt
          have D33 := Lib.hid k9.lt
          have D34 := Lib.hid hb0.size
          have nk1 : Blk V12 w.heap.size #[.int .u64 (wd0 a), .int .u64 (wd1 a), .int .u64 (wd2 a), .int .u64 (wd3 a)] 24 := by rw [hV12]; exact (blk_setL k1 (by have := D1.out; omega) 0 [.int .u64 (wd0 r1), .int .u64 (wd1 r1), .int .u64 (wd2 r1), .int .u64 (wd3 r1)])
          have nk2 : Blk V12 (w.heap.size + 1) #[.int .u64 0, .int .u64 0, .int .u64 0, .int .u64 0] 24 := by rw [hV12]; exact (blk_setL k2 (by have := D2.out; omega) 0 [.int .u64 (wd0 r1), .int .u64 (wd1 r1), .int .u64 (wd2 r1), .int .u64 (wd3 r1)])
          have nk3 : Blk V12 U2.heap.size #[.int .u64 (wd0 r1), .int .u64 (wd1 r1), .int .u64 (wd2 r1), .int .u64 (wd3 r1)] 24 := by rw [hV12]; exact (blk_full _ [.int .u64 (wd0 r1), .int .u64 (wd1 r1), .int .u64 (wd2 r1), .int .u64 (wd3 r1)] k3 rfl)
          have nk4 : Blk V12 (U2.heap.size + 1) #[.int .u64 (wd0 h), .int .u64 (wd1 h), .int .u64 (wd2 h), .int .u64 (wd3 h)] 24 := by rw [hV12]; exact (blk_setL k4 (by omega) 0 [.int .u64 (wd0 r1), .int .u64 (wd1 r1), .int .u64 (wd2 r1), .int .u64 (wd3 r1)])
          have nk6 : Blk V12 U5.heap.size #[.int .u64 (wd0 r1), .int .u64 (wd1 r1), .int .u64 (wd2 r1), .int .u64 (wd3 r1)] 24 := by rw [hV12]; exact (blk_setL k6 (by have := D6.out; omega) 0 [.int .u64 (wd0 r1), .int .u64 (wd1 r1), .int .u64 (wd2 r1), .int .u64 (wd3 r1)])
          have nk9 : Blk V12 U7.heap.size #[.int .u64 (wd0 r3), .int .u64 (wd1 r3), .int .u64 (wd2 r3), .int .u64 (wd3 r3)] 24 := by rw [hV12]; exact (blk_setL k9 (by have := D17.out; omega) 0 [.int .u64 (wd0 r1), .int .u64 (wd1 r1), .int .u64 (wd2 r1), .int .u64 (wd3 r1)])
          have nhb0 : Below w.heap.size w V12 := by rw [hV12]; exact (blw_setL hb0 (by have := D3.out; omega) 0 [.int .u64 (wd0 r1), .int .u64 (wd1 r1), .int .u64 (wd2 r1), .int .u64 (wd3 r1)])
          clear k1 k2 k3 k4 k6 k9
          clear hb0
          clear hV12
          have k1 := nk1
          clear nk1
          have k2 := nk2
          clear nk2
          have k3 := nk3
          clear nk3
          have k4 := nk4
          clear nk4
          have k6 := nk6
          clear nk6
          have k9 := nk9
          clear nk9
          have hb0 := nhb0
          clear nhb0
          have HIn : RtI a (rtv a) r1 h ∧ h - r1 ≤ (((h - r1).toNat) : Int) := by
            have fin : RtI a (rtv a) r1 h := by
              first
                | exact HI1.out.1.high Hr1.out (ok_sq Hz4.out _ _ia)
                | exact HI1.out.1.high Hr1.out (fun g => of_decide_eq_false hz6 ((cmp_le_iff Hr5.out).2 (by rw [← mulv_okb Hz4.out Hr3.out]; exact g)))
                | exact HI1.out.1.low Hr1.out (by rw [mulv_okb Hz4.out Hr3.out]; exact (cmp_le_iff Hr5.out).1 (of_decide_eq_true hz6))
            exact ⟨fin, by omega⟩
          go_roundg ((h - r1).toNat)
          case measure =>
            have q_ := HI1.out.1.step Hr1.out hz2
            have q2_ := HI1.out.2
            omega
          case rel => exact ⟨r1, h, Lib.hid HIn, k1, k2, k3, k4, hb0⟩
    · have c2_0 : U5.cell? ⟨(w.heap.size + 1), 0, none⟩ = some (.int .u64 0) := k2.cell 0
      have c2_1 : U5.cell? ⟨(w.heap.size + 1), 1, none⟩ = some (.int .u64 0) := k2.cell 1
      have c2_2 : U5.cell? ⟨(w.heap.size + 1), 2, none⟩ = some (.int .u64 0) := k2.cell 2
      have c2_3 : U5.cell? ⟨(w.heap.size + 1), 3, none⟩ = some (.int .u64 0) := k2.cell 3
      have f2_0 := k2.free 0
      have f2_1 := k2.free 1
      have f2_2 := k2.free 2
      have f2_3 := k2.free 3
      have l2 := k2.lt
      have l2_0 : w.heap.size < U5.heap.size := by have := k2.lt; omega
      have c3_0 : U5.cell? ⟨U2.heap.size, 0, none⟩ = some (.int .u64 (wd0 l)) := k3.cell 0
      have c3_1 : U5.cell? ⟨U2.heap.size, 1, none⟩ = some (.int .u64 (wd1 l)) := k3.cell 1
      have c3_2 : U5.cell? ⟨U2.heap.size, 2, none⟩ = some (.int .u64 (wd2 l)) := k3.cell 2
      have c3_3 : U5.cell? ⟨U2.heap.size, 3, none⟩ = some (.int .u64 (wd3 l)) := k3.cell 3
      have l3 := k3.lt
      have p3_2 : U2.heap.size ≠ (w.heap.size + 1) := (by have := D2.out; omega)
      have e0 : l = R0 := by rw [← HR0.out]; exact HI1.out.1.fin Hr1.out hz2
      have e1 : true = R1 := by rw [← HR1.out]; (try rw [HP0.out]); (try rw [Hr1.out]); (try rw [hz2]); all_goals first | rfl | simp
      subst e0
      subst e1
      go_wp2
      clear c2_0 c2_1 c2_2 c2_3 f2_0 f2_1 f2_2 f2_3 l2 l2_0 c3_0 c3_1 c3_2 c3_3 l3 p3_2
      first | refine post_world ?_
      intro V13 hV13
      have D35 := Lib.hid k1.lt
      have D36 := Lib.hid k2.lt
      have D37 := Lib.hid k3.lt
      have D38 := Lib.hid k4.lt
      have D39 := Lib.hid hb0.size
      clear k1 k3 k4
      have nk2 : Blk V13 (w.heap.size + 1) #[.int .u64 (wd0 l), .int .u64 (wd1 l), .int .u64 (wd2 l), .int .u64 (wd3 l)] 24 := by rw [hV13]; exact ((blk_full _ [.int .u64 (wd0 l), .int .u64 (wd1 l), .int .u64 (wd2 l), .int .u64 (wd3 l)] k2 rfl).alloc _)
      have nhb0 : Below w.heap.size w V13 := by rw [hV13]; exact (blw_al (blw_setL hb0 (by omega) 0 [.int .u64 (wd0 l), .int .u64 (wd1 l), .int .u64 (wd2 l), .int .u64 (wd3 l)]) _)
      clear k2
      clear hb0
      clear hV13
      have k2 := nk2
      clear nk2
      have hb0 := nhb0
      clear nhb0
      have g2_0 : V13.cell? ⟨(w.heap.size + 1), 0, none⟩ = some (.int .u64 (wd0 l)) := k2.cell 0
      have g2_1 : V13.cell? ⟨(w.heap.size + 1), 1, none⟩ = some (.int .u64 (wd1 l)) := k2.cell 1
      have g2_2 : V13.cell? ⟨(w.heap.size + 1), 2, none⟩ = some (.int .u64 (wd2 l)) := k2.cell 2
      have g2_3 : V13.cell? ⟨(w.heap.size + 1), 3, none⟩ = some (.int .u64 (wd3 l)) := k2.cell 3
      clear k2
      simp [bodyPost, results, Tryd.results22, go_sem, g2_0, g2_1, g2_2, g2_3]
      first | exact hb0 | exact ⟨rfl, hb0⟩

theorem rtk_in (a : Int) : InI a → 0 ≤ a → InI (rtv a) := fun ia h => by
  have := rtv_is ia h
  obtain ⟨h0, h1, _⟩ := this
  have : rtv a ≤ rtv a * rtv a := by
    rcases Int.lt_or_le (rtv a) 1 with g | g
    · have := sqn (rtv a); omega
    · have := Int.mul_le_mul_of_nonneg_left g h0; omega
  unfold InI b255 at *; omega
theorem Root_v (a r : Int) (k : Bool) (hr : rtv a = r) (hk : rtk a = k) (ia : InI a) (w : World) :
    Calls Tryd.prog 22 #[wI a] w fun e w' => e = .returned (.tuple #[wI r, .bool k]) ∧ Below w.heap.size w w' := by
  by_cases h : a < 0
  · have e1 : rtv a = 0 := by unfold rtv; rw [decide_eq_true h]; rfl
    have e2 : rtk a = false := by unfold rtk; rw [decide_eq_true h]; rfl
    exact Root_0 a r k (e1.symm.trans hr) (e2.symm.trans hk) (decide_eq_true h) ia w
  · have e2 : rtk a = true := by unfold rtk; rw [decide_eq_false h]; rfl
    exact Root_1 a r k hr (e2.symm.trans hk) (decide_eq_false h) (rtv_is ia (by omega)) ia w
end Go.Proofs.YtcfiemeknocgjaaDoor
