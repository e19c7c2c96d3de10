/- The walk of gromalaw03's PointCircles. Conditions: none. -/
import Derived.Test.YtgddpkopbiendaaPntL
import Derived.Test.YtgddpkopbiendaaOpenP
namespace Go.Proofs.Ytgddpkopbiendaa
open Go.RowKit

theorem rCirc_is (ax ay bx b_y cx cy px py r : Int) (h : crc ax ay bx b_y cx cy px py = r) (v : World) :
    Calls Try.prog 48 #[pI ax ay, pI bx b_y, pI cx cy, pI px py] v fun e w' => e = .returned (.int .i64 r) ∧ Below v.heap.size v w' := h ▸ rCirc_any ax ay bx b_y cx cy px py v
set_option maxRecDepth 100000 in
set_option maxHeartbeats 4000000 in
theorem PCirc_go (ax ay bx b_y cx cy dx dy i : Int) (hi : crc ax ay bx b_y cx cy dx dy = i) (hf : crc bx b_y ax ay cx cy dx dy = i) (hg : crc bx b_y cx cy ax ay dx dy = i) (w : World) :
    Calls Try.prog 9 #[fI ax ay bx b_y cx cy dx dy] w fun e w' => e = .returned (.bool true) ∧ Below w.heap.size w w' := by
  have HI := Lib.hid hi
  have HF := Lib.hid hf
  have HG := Lib.hid hg
  clear hi hf hg
  go_enter Try.func9, Try.ntmps9
  go_wp2_with fail
  first | refine calls_w ?_ | refine name_world ?_
  intro W hW
  have kz : Blk W w.heap.size #[.int .i64 ax, .int .i64 ay, .int .i64 bx, .int .i64 b_y, .int .i64 cx, .int .i64 cy, .int .i64 dx, .int .i64 dy] 69 := by rw [hW]; exact Blk.new w _ _
  have hb0 : Below w.heap.size w W := by rw [hW]; exact below_a1 _ _
  clear hW
  refine (Circle_is ax ay bx b_y cx cy dx dy i HI.out _).mono ?_
  rintro e u1 ⟨rfl, hn⟩
  replace kz := kz.of hn
  replace hb0 := hb0.trans (hn.mono hb0.size)
  clear hn
  have cz0 := kz.cell 0
  have cz1 := kz.cell 1
  have cz2 := kz.cell 2
  have cz3 := kz.cell 3
  have cz4 := kz.cell 4
  have cz5 := kz.cell 5
  have cz6 := kz.cell 6
  have cz7 := kz.cell 7
  have lz := kz.lt
  simp only [List.getElem?_toArray, List.getElem?_cons_zero, List.getElem?_cons_succ] at cz0 cz1 cz2 cz3 cz4 cz5 cz6 cz7
  have KZ := Lib.hid kz
  clear kz
  go_wp2_with fail
  refine wp_region_up u1.heap.size 39 [(true, 0), (true, 1), (true, 2), (true, 4), (true, 5), (true, 7), (true, 8), (true, 10), (true, 11), (false, 3), (false, 6), (false, 9), (false, 12), (false, 13), (true, 14), (true, 15), (true, 16), (true, 17), (true, 18), (true, 19), (true, 20), (true, 21), (true, 22), (true, 23), (true, 25), (false, 24), (true, 26), (true, 27), (true, 28), (true, 29), (true, 30), (true, 31), (true, 32), (true, 33), (true, 34), (true, 35), (true, 36), (true, 38), (false, 37)] (by kernel_rfl) (by kernel_rfl) (fun _ _ d _ _ h => by cases d <;> exact h) ?_
  have hb : Below u1.heap.size u1 u1.drew := (Below.refl _ _).drew
  iterate 9
    refine wpS_takeL rfl rfl ?_
    go_big_quiet_step (rfl)
    refine wpQuiet_nil ?_
  refine wpS_doL rfl ?_
  intro K hK
  go_wp2_with ((first | (go_at_call 39; (with_reducible refine (pref_any ax ay _).mono ?_); rintro e w2 ⟨rfl, hn⟩) | (go_at_call 39; (with_reducible refine (pref_any bx b_y _).mono ?_); rintro e w2 ⟨rfl, hn⟩) | (go_at_call 39; (with_reducible refine (pref_any cx cy _).mono ?_); rintro e w2 ⟨rfl, hn⟩) | (go_at_call 39; (with_reducible refine (pref_any dx dy _).mono ?_); rintro e w2 ⟨rfl, hn⟩) | (go_at_call 48; (with_reducible refine (rCirc_is ax ay bx b_y cx cy dx dy i HI.out _).mono ?_); rintro e w2 ⟨rfl, hn⟩) | (go_at_call 47; (with_reducible refine (Circle_is ax ay bx b_y cx cy dx dy i HI.out _).mono ?_); rintro e w2 ⟨rfl, hn⟩) | (go_at_call 47; (with_reducible refine (Circle_is bx b_y ax ay cx cy dx dy i HF.out _).mono ?_); rintro e w2 ⟨rfl, hn⟩) | (go_at_call 47; (with_reducible refine (Circle_is bx b_y cx cy ax ay dx dy i HG.out _).mono ?_); rintro e w2 ⟨rfl, hn⟩)))
  replace hb := hb.trans (hn.mono hb.size)
  refine hK.out _ _ (up_iff.2 hb) ?_
  clear hK K
  clear hn
  refine wpS_doL rfl ?_
  intro K hK
  go_wp2_with ((first | (go_at_call 39; (with_reducible refine (pref_any ax ay _).mono ?_); rintro e w2 ⟨rfl, hn⟩) | (go_at_call 39; (with_reducible refine (pref_any bx b_y _).mono ?_); rintro e w2 ⟨rfl, hn⟩) | (go_at_call 39; (with_reducible refine (pref_any cx cy _).mono ?_); rintro e w2 ⟨rfl, hn⟩) | (go_at_call 39; (with_reducible refine (pref_any dx dy _).mono ?_); rintro e w2 ⟨rfl, hn⟩) | (go_at_call 48; (with_reducible refine (rCirc_is ax ay bx b_y cx cy dx dy i HI.out _).mono ?_); rintro e w2 ⟨rfl, hn⟩) | (go_at_call 47; (with_reducible refine (Circle_is ax ay bx b_y cx cy dx dy i HI.out _).mono ?_); rintro e w2 ⟨rfl, hn⟩) | (go_at_call 47; (with_reducible refine (Circle_is bx b_y ax ay cx cy dx dy i HF.out _).mono ?_); rintro e w2 ⟨rfl, hn⟩) | (go_at_call 47; (with_reducible refine (Circle_is bx b_y cx cy ax ay dx dy i HG.out _).mono ?_); rintro e w2 ⟨rfl, hn⟩)))
  replace hb := hb.trans (hn.mono hb.size)
  refine hK.out _ _ (up_iff.2 hb) ?_
  clear hK K
  clear hn
  refine wpS_doL rfl ?_
  intro K hK
  go_wp2_with ((first | (go_at_call 39; (with_reducible refine (pref_any ax ay _).mono ?_); rintro e w2 ⟨rfl, hn⟩) | (go_at_call 39; (with_reducible refine (pref_any bx b_y _).mono ?_); rintro e w2 ⟨rfl, hn⟩) | (go_at_call 39; (with_reducible refine (pref_any cx cy _).mono ?_); rintro e w2 ⟨rfl, hn⟩) | (go_at_call 39; (with_reducible refine (pref_any dx dy _).mono ?_); rintro e w2 ⟨rfl, hn⟩) | (go_at_call 48; (with_reducible refine (rCirc_is ax ay bx b_y cx cy dx dy i HI.out _).mono ?_); rintro e w2 ⟨rfl, hn⟩) | (go_at_call 47; (with_reducible refine (Circle_is ax ay bx b_y cx cy dx dy i HI.out _).mono ?_); rintro e w2 ⟨rfl, hn⟩) | (go_at_call 47; (with_reducible refine (Circle_is bx b_y ax ay cx cy dx dy i HF.out _).mono ?_); rintro e w2 ⟨rfl, hn⟩) | (go_at_call 47; (with_reducible refine (Circle_is bx b_y cx cy ax ay dx dy i HG.out _).mono ?_); rintro e w2 ⟨rfl, hn⟩)))
  replace hb := hb.trans (hn.mono hb.size)
  refine hK.out _ _ (up_iff.2 hb) ?_
  clear hK K
  clear hn
  refine wpS_doL rfl ?_
  intro K hK
  go_wp2_with ((first | (go_at_call 39; (with_reducible refine (pref_any ax ay _).mono ?_); rintro e w2 ⟨rfl, hn⟩) | (go_at_call 39; (with_reducible refine (pref_any bx b_y _).mono ?_); rintro e w2 ⟨rfl, hn⟩) | (go_at_call 39; (with_reducible refine (pref_any cx cy _).mono ?_); rintro e w2 ⟨rfl, hn⟩) | (go_at_call 39; (with_reducible refine (pref_any dx dy _).mono ?_); rintro e w2 ⟨rfl, hn⟩) | (go_at_call 48; (with_reducible refine (rCirc_is ax ay bx b_y cx cy dx dy i HI.out _).mono ?_); rintro e w2 ⟨rfl, hn⟩) | (go_at_call 47; (with_reducible refine (Circle_is ax ay bx b_y cx cy dx dy i HI.out _).mono ?_); rintro e w2 ⟨rfl, hn⟩) | (go_at_call 47; (with_reducible refine (Circle_is bx b_y ax ay cx cy dx dy i HF.out _).mono ?_); rintro e w2 ⟨rfl, hn⟩) | (go_at_call 47; (with_reducible refine (Circle_is bx b_y cx cy ax ay dx dy i HG.out _).mono ?_); rintro e w2 ⟨rfl, hn⟩)))
  replace hb := hb.trans (hn.mono hb.size)
  refine hK.out _ _ (up_iff.2 hb) ?_
  clear hK K
  clear hn
  refine wpS_doL rfl ?_
  intro K hK
  go_wp2_with ((first | (go_at_call 39; (with_reducible refine (pref_any ax ay _).mono ?_); rintro e w2 ⟨rfl, hn⟩) | (go_at_call 39; (with_reducible refine (pref_any bx b_y _).mono ?_); rintro e w2 ⟨rfl, hn⟩) | (go_at_call 39; (with_reducible refine (pref_any cx cy _).mono ?_); rintro e w2 ⟨rfl, hn⟩) | (go_at_call 39; (with_reducible refine (pref_any dx dy _).mono ?_); rintro e w2 ⟨rfl, hn⟩) | (go_at_call 48; (with_reducible refine (rCirc_is ax ay bx b_y cx cy dx dy i HI.out _).mono ?_); rintro e w2 ⟨rfl, hn⟩) | (go_at_call 47; (with_reducible refine (Circle_is ax ay bx b_y cx cy dx dy i HI.out _).mono ?_); rintro e w2 ⟨rfl, hn⟩) | (go_at_call 47; (with_reducible refine (Circle_is bx b_y ax ay cx cy dx dy i HF.out _).mono ?_); rintro e w2 ⟨rfl, hn⟩) | (go_at_call 47; (with_reducible refine (Circle_is bx b_y cx cy ax ay dx dy i HG.out _).mono ?_); rintro e w2 ⟨rfl, hn⟩)))
  replace hb := hb.trans (hn.mono hb.size)
  refine hK.out _ _ (up_iff.2 hb) ?_
  clear hK K
  clear hn
  iterate 11
    refine wpS_takeL rfl rfl ?_
    go_big_quiet_step (rfl)
    refine wpQuiet_nil ?_
  refine wpS_doL rfl ?_
  intro K hK
  go_wp2_with ((first | (go_at_call 39; (with_reducible refine (pref_any ax ay _).mono ?_); rintro e w2 ⟨rfl, hn⟩) | (go_at_call 39; (with_reducible refine (pref_any bx b_y _).mono ?_); rintro e w2 ⟨rfl, hn⟩) | (go_at_call 39; (with_reducible refine (pref_any cx cy _).mono ?_); rintro e w2 ⟨rfl, hn⟩) | (go_at_call 39; (with_reducible refine (pref_any dx dy _).mono ?_); rintro e w2 ⟨rfl, hn⟩) | (go_at_call 48; (with_reducible refine (rCirc_is ax ay bx b_y cx cy dx dy i HI.out _).mono ?_); rintro e w2 ⟨rfl, hn⟩) | (go_at_call 47; (with_reducible refine (Circle_is ax ay bx b_y cx cy dx dy i HI.out _).mono ?_); rintro e w2 ⟨rfl, hn⟩) | (go_at_call 47; (with_reducible refine (Circle_is bx b_y ax ay cx cy dx dy i HF.out _).mono ?_); rintro e w2 ⟨rfl, hn⟩) | (go_at_call 47; (with_reducible refine (Circle_is bx b_y cx cy ax ay dx dy i HG.out _).mono ?_); rintro e w2 ⟨rfl, hn⟩)))
  try replace hb := hb.trans (hn.mono hb.size)
  refine hK.out _ _ (up_iff.2 hb) ?_
  clear hK K
  try clear hn
  iterate 12
    refine wpS_takeL rfl rfl ?_
    go_big_quiet_step (rfl)
    refine wpQuiet_nil ?_
  refine wpS_doL rfl ?_
  intro K hK
  go_wp2_with ((first | (go_at_call 39; (with_reducible refine (pref_any ax ay _).mono ?_); rintro e w2 ⟨rfl, hn⟩) | (go_at_call 39; (with_reducible refine (pref_any bx b_y _).mono ?_); rintro e w2 ⟨rfl, hn⟩) | (go_at_call 39; (with_reducible refine (pref_any cx cy _).mono ?_); rintro e w2 ⟨rfl, hn⟩) | (go_at_call 39; (with_reducible refine (pref_any dx dy _).mono ?_); rintro e w2 ⟨rfl, hn⟩) | (go_at_call 48; (with_reducible refine (rCirc_is ax ay bx b_y cx cy dx dy i HI.out _).mono ?_); rintro e w2 ⟨rfl, hn⟩) | (go_at_call 47; (with_reducible refine (Circle_is ax ay bx b_y cx cy dx dy i HI.out _).mono ?_); rintro e w2 ⟨rfl, hn⟩) | (go_at_call 47; (with_reducible refine (Circle_is bx b_y ax ay cx cy dx dy i HF.out _).mono ?_); rintro e w2 ⟨rfl, hn⟩) | (go_at_call 47; (with_reducible refine (Circle_is bx b_y cx cy ax ay dx dy i HG.out _).mono ?_); rintro e w2 ⟨rfl, hn⟩)))
  try replace hb := hb.trans (hn.mono hb.size)
  refine hK.out _ _ (up_iff.2 hb) ?_
  clear hK K
  try clear hn
  refine wpS_nil ?_
  simp only [List.drop_succ_cons, List.drop_zero]
  have kz := KZ.out.of hb
  replace hb0 := hb0.trans (hb.mono hb0.size)
  clear hb cz0 cz1 cz2 cz3 cz4 cz5 cz6 cz7 lz KZ
  go_wp2_with fail
  clear kz
  refine (pawake_any _).mono ?_
  rintro e u1 ⟨rfl, hn⟩
  replace hb0 := hb0.trans (hn.mono hb0.size)
  clear hn 
  go_wp2
  go_ret
  exact ⟨by simp, hb0⟩

theorem PCirc_any (ax ay bx b_y cx cy dx dy : Int) (w : World) :
    Calls Try.prog 9 #[fI ax ay bx b_y cx cy dx dy] w fun e w' => e = .returned (.bool true) ∧ Below w.heap.size w w' :=
  PCirc_go ax ay bx b_y cx cy dx dy _ rfl (crc_swap _ _ _ _ _ _ _ _) (crc_rot _ _ _ _ _ _ _ _) w
end Go.Proofs.Ytgddpkopbiendaa
