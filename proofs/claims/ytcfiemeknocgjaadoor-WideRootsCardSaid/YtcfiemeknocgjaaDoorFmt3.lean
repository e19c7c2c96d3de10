/- wide's Text at one number, and gromalaw01's awake. Conditions: the table of powers lies as laid. -/
import Derived.Test.YtcfiemeknocgjaaDoorFmt2
import Derived.Test.YtcfiemeknocgjaaDoorMul2
namespace Go.Proofs.YtcfiemeknocgjaaDoor
open Go.RowKit

/-- from a contract to its words -/
theorem lit_of {f : FuncId} {args args' : Array Value} {v v' : Value} {w : World} (h : Calls Tryd.prog f args w fun e w' => e = .returned v ∧ Below w.heap.size w w') (ha : args = args') (hv : v = v') :
    Calls Tryd.prog f args' w fun e w' => e = .returned v' ∧ Below w.heap.size w w' := by subst ha; subst hv; exact h
theorem sfmt36 (w : World) : Calls Tryd.prog 36 #[.int .u64 36, .int .i64 10] w fun e w' => e = .returned (.string ⟨#[51, 54]⟩) ∧ Below w.heap.size w w' := by
  go_enter Tryd.func36, Tryd.ntmps36
  go_wp2_with fail
  refine (fmt36 _).mono ?_
  rintro e w1 ⟨rfl, hn⟩
  go_wp2
  go_ret
  exact ⟨rfl, hn⟩
theorem sfmtC (w : World) (hG : Tab w) : Calls Tryd.prog 36 #[.int .u64 893488147419103232, .int .i64 10] w fun e w' => e = .returned (.string ⟨#[56, 57, 51, 52, 56, 56, 49, 52, 55, 52, 49, 57, 49, 48, 51, 50, 51, 50]⟩) ∧ Below w.heap.size w w' := by
  go_enter Tryd.func36, Tryd.ntmps36
  go_wp2_with fail
  refine (fmtC _ hG).mono ?_
  rintro e w1 ⟨rfl, hn⟩
  go_wp2
  go_ret
  exact ⟨rfl, hn⟩
theorem size_c (w : World) : Calls Tryd.prog 28 #[.agg #[.int .u64 0, .int .u64 18446744073709551614, .int .u64 18446744073709551615, .int .u64 18446744073709551615]] w fun e w' => e = .returned (.agg #[.int .u64 0, .int .u64 2, .int .u64 0, .int .u64 0]) ∧ Below w.heap.size w w' :=
  lit_of (size_any (-36893488147419103232) w) (by kernel_rfl) (by kernel_rfl)
theorem dvd1_c (w : World) : Calls Tryd.prog 29 #[.agg #[.int .u64 0, .int .u64 2, .int .u64 0, .int .u64 0], .agg #[.int .u64 1000000000000000000, .int .u64 0, .int .u64 0, .int .u64 0]] w fun e w' => e = .returned (.tuple #[.agg #[.int .u64 36, .int .u64 0, .int .u64 0, .int .u64 0], .agg #[.int .u64 893488147419103232, .int .u64 0, .int .u64 0, .int .u64 0]]) ∧ Below w.heap.size w w' :=
  lit_of (divided_any 36893488147419103232 1000000000000000000 w (by unfold b256; omega) (by unfold b256; omega)) (by kernel_rfl) (by kernel_rfl)
theorem dvd2_c (w : World) : Calls Tryd.prog 29 #[.agg #[.int .u64 36, .int .u64 0, .int .u64 0, .int .u64 0], .agg #[.int .u64 1000000000000000000, .int .u64 0, .int .u64 0, .int .u64 0]] w fun e w' => e = .returned (.tuple #[.agg #[.int .u64 0, .int .u64 0, .int .u64 0, .int .u64 0], .agg #[.int .u64 36, .int .u64 0, .int .u64 0, .int .u64 0]]) ∧ Below w.heap.size w w' :=
  lit_of (divided_any 36 1000000000000000000 w (by unfold b256; omega) (by unfold b256; omega)) (by kernel_rfl) (by kernel_rfl)
theorem neg_c (w : World) : Calls Tryd.prog 33 #[.agg #[.int .u64 0, .int .u64 18446744073709551614, .int .u64 18446744073709551615, .int .u64 18446744073709551615]] w fun e w' => e = .returned (.bool true) ∧ Below w.heap.size w w' :=
  lit_of (negative_any (-36893488147419103232) w) (by kernel_rfl) (by kernel_rfl)
theorem of_m7 (w : World) : Calls Tryd.prog 31 #[.int .i64 (-7)] w fun e w' => e = .returned (.agg #[.int .u64 18446744073709551609, .int .u64 18446744073709551615, .int .u64 18446744073709551615, .int .u64 18446744073709551615]) ∧ Below w.heap.size w w' :=
  lit_of (Of_any (-7) w (by unfold In64; omega)) (by kernel_rfl) (by kernel_rfl)
theorem of_2 (w : World) : Calls Tryd.prog 31 #[.int .i64 2] w fun e w' => e = .returned (.agg #[.int .u64 2, .int .u64 0, .int .u64 0, .int .u64 0]) ∧ Below w.heap.size w w' :=
  lit_of (Of_any (2) w (by unfold In64; omega)) (by kernel_rfl) (by kernel_rfl)
theorem of_62 (w : World) : Calls Tryd.prog 31 #[.int .i64 4611686018427387904] w fun e w' => e = .returned (.agg #[.int .u64 4611686018427387904, .int .u64 0, .int .u64 0, .int .u64 0]) ∧ Below w.heap.size w w' :=
  lit_of (Of_any (4611686018427387904) w (by unfold In64; omega)) (by kernel_rfl) (by kernel_rfl)
theorem of_m8 (w : World) : Calls Tryd.prog 31 #[.int .i64 (-8)] w fun e w' => e = .returned (.agg #[.int .u64 18446744073709551608, .int .u64 18446744073709551615, .int .u64 18446744073709551615, .int .u64 18446744073709551615]) ∧ Below w.heap.size w w' :=
  lit_of (Of_any (-8) w (by unfold In64; omega)) (by kernel_rfl) (by kernel_rfl)
theorem of_m4 (w : World) : Calls Tryd.prog 31 #[.int .i64 (-4)] w fun e w' => e = .returned (.agg #[.int .u64 18446744073709551612, .int .u64 18446744073709551615, .int .u64 18446744073709551615, .int .u64 18446744073709551615]) ∧ Below w.heap.size w w' :=
  lit_of (Of_any (-4) w (by unfold In64; omega)) (by kernel_rfl) (by kernel_rfl)
theorem of_1 (w : World) : Calls Tryd.prog 31 #[.int .i64 1] w fun e w' => e = .returned (.agg #[.int .u64 1, .int .u64 0, .int .u64 0, .int .u64 0]) ∧ Below w.heap.size w w' :=
  lit_of (Of_any (1) w (by unfold In64; omega)) (by kernel_rfl) (by kernel_rfl)
theorem div_c (w : World) : Calls Tryd.prog 9 #[.agg #[.int .u64 18446744073709551609, .int .u64 18446744073709551615, .int .u64 18446744073709551615, .int .u64 18446744073709551615], .agg #[.int .u64 2, .int .u64 0, .int .u64 0, .int .u64 0]] w fun e w' => e = .returned (.tuple #[.agg #[.int .u64 18446744073709551612, .int .u64 18446744073709551615, .int .u64 18446744073709551615, .int .u64 18446744073709551615], .agg #[.int .u64 1, .int .u64 0, .int .u64 0, .int .u64 0], .bool true]) ∧ Below w.heap.size w w' :=
  lit_of (Div_any (-7) 2 w (by unfold InI b255; omega) (by unfold InI b255; omega)) (by kernel_rfl) (by kernel_rfl)
theorem mul_c (w : World) : Calls Tryd.prog 32 #[.agg #[.int .u64 4611686018427387904, .int .u64 0, .int .u64 0, .int .u64 0], .agg #[.int .u64 18446744073709551608, .int .u64 18446744073709551615, .int .u64 18446744073709551615, .int .u64 18446744073709551615]] w fun e w' => e = .returned (.tuple #[.agg #[.int .u64 0, .int .u64 18446744073709551614, .int .u64 18446744073709551615, .int .u64 18446744073709551615], .bool true]) ∧ Below w.heap.size w w' :=
  lit_of (Mul_ok 4611686018427387904 (-8) w (by unfold InI b255; omega) (by unfold InI b255; omega)) (by kernel_rfl) (by kernel_rfl)
theorem sign_c (w : World) : Calls Tryd.prog 10 #[.agg #[.int .u64 0, .int .u64 18446744073709551614, .int .u64 18446744073709551615, .int .u64 18446744073709551615]] w fun e w' => e = .returned (.int .i64 (-1)) ∧ Below w.heap.size w w' :=
  lit_of (Sign_any (-36893488147419103232) w (by unfold InI b255; omega)) (by kernel_rfl) (by kernel_rfl)

set_option maxRecDepth 100000 in
set_option maxHeartbeats 2000000 in
theorem text_c (w : World) (hG : Tab w) : Calls Tryd.prog 12 #[.agg #[.int .u64 0, .int .u64 18446744073709551614, .int .u64 18446744073709551615, .int .u64 18446744073709551615]] w fun e w' => e = .returned (.string ⟨#[45, 51, 54, 56, 57, 51, 52, 56, 56, 49, 52, 55, 52, 49, 57, 49, 48, 51, 50, 51, 50]⟩) ∧ Below w.heap.size w w' := by
  go_enter Tryd.func12, Tryd.ntmps12
  go_wp2_with fail
  refine calls_w ?_
  intro W hW
  have kp : Blk W w.heap.size #[.int .u64 0, .int .u64 18446744073709551614, .int .u64 18446744073709551615, .int .u64 18446744073709551615] 24 := by rw [hW]; exact Blk.new _ _ _
  have hb0 : Below w.heap.size w W := by rw [hW]; exact below_a1 _ _
  clear hW
  refine (size_c _).mono ?_
  rintro e u1 ⟨rfl, hn⟩
  replace kp := kp.of hn
  replace hb0 := hb0.trans (hn.mono hb0.size)
  clear hn
  go_wp2_with fail
  refine name_world ?_
  intro W2 hW2
  have kx : Blk W2 u1.heap.size #[.int .u64 0, .int .u64 2, .int .u64 0, .int .u64 0] 24 := by rw [hW2]; exact Blk.new _ _ _
  have hn : Below u1.heap.size u1 W2 := by rw [hW2]; exact below_a1 _ _
  clear hW2
  have hlx : w.heap.size < u1.heap.size := kp.lt
  replace kp := kp.of hn
  replace hb0 := hb0.trans (hn.mono hb0.size)
  clear hn
  refine wp_loop_rounds 3 ?_
  rw [rounds_succ]
  have cx0 := kx.cell 0
  have cx1 := kx.cell 1
  have cx2 := kx.cell 2
  have cx3 := kx.cell 3
  have lx := kx.lt
  simp only [List.getElem?_toArray, List.getElem?_cons_zero, List.getElem?_cons_succ] at cx0 cx1 cx2 cx3
  go_wp2_with fail
  clear lx cx0 cx1 cx2 cx3
  refine (dvd1_c _).mono ?_
  rintro e u2 ⟨rfl, hn⟩
  replace kp := kp.of hn
  replace kx := kx.of hn
  replace hb0 := hb0.trans (hn.mono hb0.size)
  clear hn
  go_wp2_with fail
  refine calls_w ?_
  intro W3 hW3
  have kq : Blk W3 u2.heap.size #[.int .u64 36, .int .u64 0, .int .u64 0, .int .u64 0] 24 := by rw [hW3]; exact (Blk.new _ _ _).alloc _
  have hn : Below u2.heap.size u2 W3 := by rw [hW3]; exact below_a2 _ _ _
  clear hW3
  have hlq : u1.heap.size < u2.heap.size := kx.lt
  replace kp := kp.of hn
  replace kx := kx.of hn
  replace hb0 := hb0.trans (hn.mono hb0.size)
  clear hn
  refine (sfmtC _ (hG.of hb0)).mono ?_
  rintro e u3 ⟨rfl, hn⟩
  replace kp := kp.of hn
  replace kx := kx.of hn
  replace kq := kq.of hn
  replace hb0 := hb0.trans (hn.mono hb0.size)
  clear hn
  have cq0 := kq.cell 0
  have cq1 := kq.cell 1
  have cq2 := kq.cell 2
  have cq3 := kq.cell 3
  have lq := kq.lt
  simp only [List.getElem?_toArray, List.getElem?_cons_zero, List.getElem?_cons_succ] at cq0 cq1 cq2 cq3
  go_wp2_with fail
  refine wp_loop_rounds 1 ?_
  rw [rounds_succ]
  go_wp2_with fail
  have cx0 := kx.cell 0
  have fx0 := kx.free 0
  have cx1 := kx.cell 1
  have fx1 := kx.free 1
  have cx2 := kx.cell 2
  have fx2 := kx.free 2
  have cx3 := kx.cell 3
  have fx3 := kx.free 3
  have lx := kx.lt
  simp only [List.getElem?_toArray, List.getElem?_cons_zero, List.getElem?_cons_succ] at cx0 cx1 cx2 cx3
  have HQ := Lib.hid kq
  have HX := Lib.hid kx
  have HP := Lib.hid kp
  clear kq kx kp
  refine wp_region_up u3.heap.size 5 [(true, 0), (true, 1), (true, 2), (true, 3), (true, 4)] (by kernel_rfl) (by kernel_rfl) (fun _ _ d _ _ h => by cases d <;> exact h) ?_
  have hb : Below u3.heap.size u3 u3.drew := (Below.refl _ _).drew
  iterate 5
    refine wpS_takeL rfl rfl ?_
    go_big_quiet_step (rfl)
    refine wpQuiet_nil ?_
  refine wpS_nil ?_
  simp only [List.drop_succ_cons, List.drop_zero]
  have hb3 := hb0
  clear hb0
  have kx := HX.out
  have kp := HP.out
  clear hb HQ HX HP
  clear lq cq0 cq1 cq2 cq3
  go_wp2_with fail
  rw [rounds_succ]
  refine name_world ?_
  intro W4 hW4
  clear lx cx0 fx0 cx1 fx1 cx2 fx2 cx3 fx3
  replace kx : Blk W4 u1.heap.size #[.int .u64 36, .int .u64 0, .int .u64 0, .int .u64 0] 24 := by rw [hW4]; exact (((kx.put 0 _).put 1 _).put 2 _).put 3 _
  have hn : Below u1.heap.size u3 W4 := by rw [hW4]; exact (below_set4 (Below.refl _ _) (Nat.le_refl _) _ _ _ _).drew
  replace kp := kp.below hn hlx
  replace hb0 := (show Below w.heap.size w u3 from hb3).trans (hn.mono (Nat.le_of_lt hlx))
  clear hn hW4
  have cx0 := kx.cell 0
  have cx1 := kx.cell 1
  have cx2 := kx.cell 2
  have cx3 := kx.cell 3
  have lx := kx.lt
  simp only [List.getElem?_toArray, List.getElem?_cons_zero, List.getElem?_cons_succ] at cx0 cx1 cx2 cx3
  go_wp2_with fail
  clear lx cx0 cx1 cx2 cx3
  refine (dvd2_c _).mono ?_
  rintro e v2 ⟨rfl, hn⟩
  replace kp := kp.of hn
  replace hb0 := hb0.trans (hn.mono hb0.size)
  clear hn kx
  go_wp2_with fail
  refine calls_w ?_
  intro W5 hW5
  have kq : Blk W5 v2.heap.size #[.int .u64 0, .int .u64 0, .int .u64 0, .int .u64 0] 24 := by rw [hW5]; exact (Blk.new _ _ _).alloc _
  have hn : Below v2.heap.size v2 W5 := by rw [hW5]; exact below_a2 _ _ _
  clear hW5
  replace kp := kp.of hn
  replace hb0 := hb0.trans (hn.mono hb0.size)
  clear hn
  refine (sfmt36 _).mono ?_
  rintro e v3 ⟨rfl, hn⟩
  replace kp := kp.of hn
  replace kq := kq.of hn
  replace hb0 := hb0.trans (hn.mono hb0.size)
  clear hn
  have cq0 := kq.cell 0
  have cq1 := kq.cell 1
  have cq2 := kq.cell 2
  have cq3 := kq.cell 3
  have lq := kq.lt
  simp only [List.getElem?_toArray, List.getElem?_cons_zero, List.getElem?_cons_succ] at cq0 cq1 cq2 cq3
  have cp0 := kp.cell 0
  have cp1 := kp.cell 1
  have cp2 := kp.cell 2
  have cp3 := kp.cell 3
  have lp := kp.lt
  simp only [List.getElem?_toArray, List.getElem?_cons_zero, List.getElem?_cons_succ] at cp0 cp1 cp2 cp3
  go_wp2_with fail
  clear lq cq0 cq1 cq2 cq3
  clear lp cp0 cp1 cp2 cp3
  refine (neg_c _).mono ?_
  rintro e v4 ⟨rfl, hn⟩
  replace hb0 := hb0.trans (hn.mono hb0.size)
  clear hn kp kq
  go_wp2
  go_ret
  exact ⟨by kernel_rfl, hb0⟩
end Go.Proofs.YtcfiemeknocgjaaDoor
