/- The walk of gromalaw02's awake. Conditions: none. -/
import Derived.Test.YtgddpkopbiendaaRatL1
namespace Go.Proofs.Ytgddpkopbiendaa
open Go.RowKit

theorem in64_6 : In64 6 := by unfold In64; decide
theorem in64_m4 : In64 (-4) := by unfold In64; decide
theorem in64_m2 : In64 (-2) := by unfold In64; decide
theorem in64_m3 : In64 (-3) := by unfold In64; decide
theorem in64_2 : In64 2 := by unfold In64; decide
theorem inI_64 {n : Int} (h : In64 n) : InI n := by unfold In64 at h; unfold InI b255; omega
theorem inI_6 : InI 6 := inI_64 in64_6
theorem inI_m4 : InI (-4) := inI_64 in64_m4
theorem inI_m6 : InI (-6) := by unfold InI b255; decide
theorem inI_4 : InI 4 := by unfold InI b255; decide
theorem aw_New (w : World) : Calls Try.prog 25 #[wI 6, wI (-4)] w fun e w' => e = .returned (.tuple #[rI (-6) 4, .bool true]) ∧ Below w.heap.size w w' :=
  New_neg 6 (-4) w inI_6 inI_m4 (by decide) true true (by decide) (by decide)
theorem aw_Floor (w : World) : Calls Try.prog 16 #[rI (-6) 4] w fun e w' => e = .returned (.tuple #[wI (-2), .bool true]) ∧ Below w.heap.size w w' :=
  Floor_any (-6) 4 w inI_m6 inI_4 true (by decide)
theorem aw_Reduced (w : World) : Calls Try.prog 32 #[rI (-6) 4] w fun e w' => e = .returned (.tuple #[rI (-3) 2, .bool true]) ∧ Below w.heap.size w w' :=
  Reduced_any (-6) 4 w inI_m6 inI_4 true (by decide)
theorem aw_Sign (w : World) : Calls Try.prog 61 #[rI (-6) 4] w fun e w' => e = .returned (.int .i64 (-1)) ∧ Below w.heap.size w w' :=
  RatSign_any (-6) 4 w inI_m6 inI_4 true (by decide)
theorem aw_Whole (w : World) : Calls Try.prog 18 #[rI (-6) 4] w fun e w' => e = .returned (.bool false) ∧ Below w.heap.size w w' :=
  Whole_any (-6) 4 w inI_m6 inI_4 true false (by decide) (by decide)
theorem eq4_same (a b c d : Int) : eq4 a b c d a b c d = true := by unfold eq4; simp

set_option maxRecDepth 100000 in
set_option maxHeartbeats 2000000 in
theorem awake_any (w : World) : Calls Try.prog 19 #[] w fun e w' => e = .returned (.bool true) ∧ Below w.heap.size w w' := by
  go_enter Try.func19, Try.ntmps19
  go_wp2_with fail
  refine (Of_any 6 _ in64_6).mono ?_
  rintro e w1 ⟨rfl, hb⟩
  go_wp2_with fail
  refine (Of_any (-4) _ in64_m4).mono ?_
  rintro e w2 ⟨rfl, hn⟩
  replace hb := hb.trans (hn.mono hb.size)
  clear hn
  go_wp2_with fail
  refine (aw_New _).mono ?_
  rintro e w3 ⟨rfl, hn⟩
  replace hb := hb.trans (hn.mono hb.size)
  clear hn w1 w2
  go_wp2_with fail
  refine calls_w ?_
  intro W hW
  have kr : RVar W w3.heap.size (-6) 4 := by rw [hW]; exact Blk.new _ _ _
  replace hb : Below w.heap.size w W := by rw [hW]; exact hb.alloc hb.size _
  clear hW
  refine (aw_Floor _).mono ?_
  rintro e w4 ⟨rfl, hn⟩
  replace hb := hb.trans (hn.mono hb.size)
  replace kr : RVar w4 _ _ _ := kr.of hn
  have c := RVar.c kr
  have l0 := kr.lt
  clear hn W
  go_wp2_with fail
  refine calls_w ?_
  intro W hW
  have kf : Var W w4.heap.size (-2) := by rw [hW]; exact Blk.new _ _ _
  replace kr : RVar W w3.heap.size (-6) 4 := by rw [hW]; exact kr.alloc _
  replace hb : Below w.heap.size w W := by rw [hW]; exact hb.alloc hb.size _
  clear hW c l0
  refine (aw_Reduced _).mono ?_
  rintro e w5 ⟨rfl, hn⟩
  replace hb := hb.trans (hn.mono hb.size)
  replace kr : RVar w5 _ _ _ := kr.of hn
  replace kf : Var w5 _ _ := kf.of hn
  clear hn W
  go_wp2_with fail
  refine name_world ?_
  intro W hW
  have kq : RVar W w5.heap.size (-3) 2 := by rw [hW]; exact Blk.new _ _ _
  replace kr : RVar W w3.heap.size (-6) 4 := by rw [hW]; exact kr.alloc _
  replace kf : Var W w4.heap.size (-2) := by rw [hW]; exact kf.alloc _
  replace hb : Below w.heap.size w W := by rw [hW]; exact hb.alloc hb.size _
  clear hW
  have c1 := RVar.c kr
  have c2 := Var.c kf
  have c3 := RVar.c kq
  have l1 := kr.lt
  have l2 := kf.lt
  have l3 := kq.lt
  have HB := Lib.hid hb
  have e2 := eq4_same (wd0 (-2)) (wd1 (-2)) (wd2 (-2)) (wd3 (-2))
  have KR := Lib.hid kr
  clear kr kf kq hb
  refine wp_region_up W.heap.size 17 [(true, 0), (true, 1), (true, 2), (true, 3), (true, 4), (true, 5), (true, 6), (true, 7), (true, 8), (false, 9), (true, 10), (true, 11), (true, 12), (true, 13), (false, 14), (false, 15), (true, 16)] (by kernel_rfl) (by kernel_rfl) (fun _ _ d _ _ h => by cases d <;> exact h) ?_
  have hb : Below W.heap.size W W.drew := (Below.refl _ _).drew
  iterate 9
    refine wpS_takeL rfl rfl ?_
    go_big_quiet_step (rfl)
    refine wpQuiet_nil ?_
  refine wpS_doL rfl ?_
  intro K hK
  go_wp2_with ((first | (go_at_call 31; (with_reducible refine (Of_any (-2) _ in64_m2).mono ?_); rintro e w6 ⟨rfl, hn⟩) | (go_at_call 31; (with_reducible refine (Of_any (-3) _ in64_m3).mono ?_); rintro e w6 ⟨rfl, hn⟩) | (go_at_call 31; (with_reducible refine (Of_any 2 _ in64_2).mono ?_); rintro e w6 ⟨rfl, hn⟩) | (go_at_call 61; refine (aw_Sign _).mono ?_; rintro e w6 ⟨rfl, hn⟩) | (go_at_call 18; refine (aw_Whole _).mono ?_; rintro e w6 ⟨rfl, hn⟩)))
  try replace hb := hb.trans (hn.mono hb.size)
  refine hK.out _ _ (up_iff.2 hb) ?_
  clear hK K
  try clear hn
  iterate 4
    refine wpS_takeL rfl rfl ?_
    go_big_quiet_step (rfl)
    refine wpQuiet_nil ?_
  refine wpS_doL rfl ?_
  intro K hK
  go_wp2_with ((first | (go_at_call 31; (with_reducible refine (Of_any (-2) _ in64_m2).mono ?_); rintro e w6 ⟨rfl, hn⟩) | (go_at_call 31; (with_reducible refine (Of_any (-3) _ in64_m3).mono ?_); rintro e w6 ⟨rfl, hn⟩) | (go_at_call 31; (with_reducible refine (Of_any 2 _ in64_2).mono ?_); rintro e w6 ⟨rfl, hn⟩) | (go_at_call 61; refine (aw_Sign _).mono ?_; rintro e w6 ⟨rfl, hn⟩) | (go_at_call 18; refine (aw_Whole _).mono ?_; rintro e w6 ⟨rfl, hn⟩)))
  try replace hb := hb.trans (hn.mono hb.size)
  refine hK.out _ _ (up_iff.2 hb) ?_
  clear hK K
  try clear hn
  refine wpS_doL rfl ?_
  intro K hK
  go_wp2_with ((first | (go_at_call 31; (with_reducible refine (Of_any (-2) _ in64_m2).mono ?_); rintro e w6 ⟨rfl, hn⟩) | (go_at_call 31; (with_reducible refine (Of_any (-3) _ in64_m3).mono ?_); rintro e w6 ⟨rfl, hn⟩) | (go_at_call 31; (with_reducible refine (Of_any 2 _ in64_2).mono ?_); rintro e w6 ⟨rfl, hn⟩) | (go_at_call 61; refine (aw_Sign _).mono ?_; rintro e w6 ⟨rfl, hn⟩) | (go_at_call 18; refine (aw_Whole _).mono ?_; rintro e w6 ⟨rfl, hn⟩)))
  try replace hb := hb.trans (hn.mono hb.size)
  refine hK.out _ _ (up_iff.2 hb) ?_
  clear hK K
  try clear hn
  refine wpS_takeL rfl rfl ?_
  go_big_quiet_step (rfl)
  refine wpQuiet_nil ?_
  refine wpS_nil ?_
  simp only [List.drop_succ_cons, List.drop_zero]
  have kr : RVar w6 w3.heap.size (-6) 4 := KR.out.of hb
  have hb6 := HB.out.trans (hb.mono HB.out.size)
  clear c1 c2 c3 l1 l2 l3 HB KR hb e2
  have c1 := RVar.c kr
  have e3 := eq4_same (wd0 (-3)) (wd1 (-3)) (wd2 (-3)) (wd3 (-3))
  have e4 := eq4_same (wd0 2) (wd1 2) (wd2 2) (wd3 2)
  go_wp2_with fail
  refine (aw_Sign _).mono ?_
  rintro e w7 ⟨rfl, hn⟩
  replace kr : RVar w7 _ _ _ := kr.of hn
  replace hb6 := hb6.trans (hn.mono hb6.size)
  clear c1 e3 e4 hn
  have c1 := RVar.c kr
  go_wp2_with fail
  refine (aw_Whole _).mono ?_
  rintro e w8 ⟨rfl, hn⟩
  replace hb6 := hb6.trans (hn.mono hb6.size)
  clear c1 hn kr
  go_wp2
  go_ret
  exact ⟨rfl, hb6⟩
end Go.Proofs.Ytgddpkopbiendaa
