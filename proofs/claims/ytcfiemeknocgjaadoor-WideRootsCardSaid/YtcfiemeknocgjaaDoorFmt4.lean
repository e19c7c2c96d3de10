/- gromalaw01's awake. Conditions: the table of powers lies as laid. -/
import Derived.Test.YtcfiemeknocgjaaDoorFmt3
namespace Go.Proofs.YtcfiemeknocgjaaDoor
open Go.RowKit

set_option maxRecDepth 100000 in
set_option maxHeartbeats 2000000 in
theorem wawake_any (w : World) (hG : Tab w) : Calls Tryd.prog 8 #[] w fun e w' => e = .returned (.bool true) ∧ Below w.heap.size w w' := by
  go_enter Tryd.func8, Tryd.ntmps8
  go_wp2_with fail
  have hb0 : Below w.heap.size w w := Below.refl _ _
  refine (of_m7 _).mono ?_
  rintro e u1 ⟨rfl, hn⟩
  replace hb0 := hb0.trans (hn.mono hb0.size)
  clear hn
  go_wp2_with fail
  refine (of_2 _).mono ?_
  rintro e u2 ⟨rfl, hn⟩
  replace hb0 := hb0.trans (hn.mono hb0.size)
  clear hn
  go_wp2_with fail
  refine (div_c _).mono ?_
  rintro e u3 ⟨rfl, hn⟩
  replace hb0 := hb0.trans (hn.mono hb0.size)
  clear hn
  go_wp2_with fail
  refine calls_w ?_
  intro W hW
  have kq : Blk W u3.heap.size #[.int .u64 18446744073709551612, .int .u64 18446744073709551615, .int .u64 18446744073709551615, .int .u64 18446744073709551615] 24 := by rw [hW]; exact (Blk.new _ _ _).alloc _
  have kr : Blk W (u3.heap.size + 1) #[.int .u64 1, .int .u64 0, .int .u64 0, .int .u64 0] 24 := by rw [hW]; exact Blk.new1 _ _ _ _
  have hn : Below u3.heap.size u3 W := by rw [hW]; exact below_a2 _ _ _
  replace hb0 := hb0.trans (hn.mono hb0.size)
  clear hn hW
  refine (of_62 _).mono ?_
  rintro e u4 ⟨rfl, hn⟩
  replace kq := kq.of hn
  replace kr := kr.of hn
  replace hb0 := hb0.trans (hn.mono hb0.size)
  clear hn
  go_wp2_with fail
  refine (of_m8 _).mono ?_
  rintro e u5 ⟨rfl, hn⟩
  replace kq := kq.of hn
  replace kr := kr.of hn
  replace hb0 := hb0.trans (hn.mono hb0.size)
  clear hn
  go_wp2_with fail
  refine (mul_c _).mono ?_
  rintro e u6 ⟨rfl, hn⟩
  replace kq := kq.of hn
  replace kr := kr.of hn
  replace hb0 := hb0.trans (hn.mono hb0.size)
  clear hn
  have cq0 := kq.cell 0
  have cq1 := kq.cell 1
  have cq2 := kq.cell 2
  have cq3 := kq.cell 3
  have lq := kq.lt
  simp only [List.getElem?_toArray, List.getElem?_cons_zero, List.getElem?_cons_succ] at cq0 cq1 cq2 cq3
  go_wp2_with fail
  refine name_world ?_
  intro V hV
  have kp : Blk V u6.heap.size #[.int .u64 0, .int .u64 18446744073709551614, .int .u64 18446744073709551615, .int .u64 18446744073709551615] 24 := by rw [hV]; exact Blk.new _ _ _
  have hn : Below u6.heap.size u6 V := by rw [hV]; exact below_a1 _ _
  replace kq := kq.of hn
  replace kr := kr.of hn
  replace hb0 := hb0.trans (hn.mono hb0.size)
  clear hn hV
  clear lq cq0 cq1 cq2 cq3
  have cq0 := kq.cell 0
  have cq1 := kq.cell 1
  have cq2 := kq.cell 2
  have cq3 := kq.cell 3
  have lq := kq.lt
  simp only [List.getElem?_toArray, List.getElem?_cons_zero, List.getElem?_cons_succ] at cq0 cq1 cq2 cq3
  have cr0 := kr.cell 0
  have cr1 := kr.cell 1
  have cr2 := kr.cell 2
  have cr3 := kr.cell 3
  have lr := kr.lt
  simp only [List.getElem?_toArray, List.getElem?_cons_zero, List.getElem?_cons_succ] at cr0 cr1 cr2 cr3
  have cp0 := kp.cell 0
  have cp1 := kp.cell 1
  have cp2 := kp.cell 2
  have cp3 := kp.cell 3
  have lp := kp.lt
  simp only [List.getElem?_toArray, List.getElem?_cons_zero, List.getElem?_cons_succ] at cp0 cp1 cp2 cp3
  have e4 : eq4 18446744073709551612 18446744073709551615 18446744073709551615 18446744073709551615 18446744073709551612 18446744073709551615 18446744073709551615 18446744073709551615 = true := by kernel_rfl
  have e1 : eq4 1 0 0 0 1 0 0 0 = true := by kernel_rfl
  have HP := Lib.hid kp
  clear kq kr kp
  refine wp_region_up V.heap.size 9 [(true, 0), (true, 1), (true, 2), (false, 3), (true, 4), (true, 5), (true, 6), (true, 7), (false, 8)] (by kernel_rfl) (by kernel_rfl) (fun _ _ d _ _ h => by cases d <;> exact h) ?_
  have hb : Below V.heap.size V V.drew := (Below.refl _ _).drew
  iterate 3
    refine wpS_takeL rfl rfl ?_
    go_big_quiet_step (rfl)
    refine wpQuiet_nil ?_
  refine wpS_doL rfl ?_
  intro K hK
  go_wp2_with ((first | (go_at_call 31; (with_reducible refine (of_m4 _).mono ?_); rintro e w2 ⟨rfl, hn⟩) | (go_at_call 31; (with_reducible refine (of_1 _).mono ?_); rintro e w2 ⟨rfl, hn⟩)))
  try replace hb := hb.trans (hn.mono hb.size)
  refine hK.out _ _ (up_iff.2 hb) ?_
  clear hK K
  try clear hn
  iterate 4
    refine wpS_takeL rfl rfl ?_
    go_big_quiet_step (rfl)
    refine wpQuiet_nil ?_
  refine wpS_doL rfl ?_
  intro K hK
  go_wp2_with ((first | (go_at_call 31; (with_reducible refine (of_m4 _).mono ?_); rintro e w2 ⟨rfl, hn⟩) | (go_at_call 31; (with_reducible refine (of_1 _).mono ?_); rintro e w2 ⟨rfl, hn⟩)))
  try replace hb := hb.trans (hn.mono hb.size)
  refine hK.out _ _ (up_iff.2 hb) ?_
  clear hK K
  try clear hn
  refine wpS_nil ?_
  simp only [List.drop_succ_cons, List.drop_zero]
  have kp := HP.out.of hb
  replace hb0 := hb0.trans (hb.mono hb0.size)
  clear hb HP
  clear lq cq0 cq1 cq2 cq3
  clear lr cr0 cr1 cr2 cr3
  clear lp cp0 cp1 cp2 cp3
  have cp0 := kp.cell 0
  have cp1 := kp.cell 1
  have cp2 := kp.cell 2
  have cp3 := kp.cell 3
  have lp := kp.lt
  simp only [List.getElem?_toArray, List.getElem?_cons_zero, List.getElem?_cons_succ] at cp0 cp1 cp2 cp3
  go_wp2_with fail
  clear lp cp0 cp1 cp2 cp3
  refine (text_c _ (hG.of hb0)).mono ?_
  rintro e u9 ⟨rfl, hn⟩
  replace kp := kp.of hn
  replace hb0 := hb0.trans (hn.mono hb0.size)
  clear hn
  have cp0 := kp.cell 0
  have cp1 := kp.cell 1
  have cp2 := kp.cell 2
  have cp3 := kp.cell 3
  have lp := kp.lt
  simp only [List.getElem?_toArray, List.getElem?_cons_zero, List.getElem?_cons_succ] at cp0 cp1 cp2 cp3
  go_wp2_with fail
  clear lp cp0 cp1 cp2 cp3
  refine (sign_c _).mono ?_
  rintro e u10 ⟨rfl, hn⟩
  replace kp := kp.of hn
  replace hb0 := hb0.trans (hn.mono hb0.size)
  clear hn
  go_wp2
  go_ret
  exact ⟨rfl, hb0⟩
end Go.Proofs.YtcfiemeknocgjaaDoor
