/- The walk of gromalaw03's PointTurns. Conditions: none. -/
import Derived.Test.YtgddpkopbiendaaPntD
import Derived.Test.YtgddpkopbiendaaPntE
namespace Go.Proofs.Ytgddpkopbiendaa
open Go.RowKit

theorem Way_is (ax ay bx b_y cx cy r : Int) (h : way ax ay bx b_y cx cy = r) (w : World) :
    Calls Try.prog 38 #[pI ax ay, pI bx b_y, pI cx cy] w fun e w' => e = .returned (.int .i64 r) ∧ Below w.heap.size w w' := h ▸ Way_any ax ay bx b_y cx cy w
set_option maxRecDepth 100000 in
set_option maxHeartbeats 2000000 in
theorem PTurns_go (ax ay bx b_y cx cy t u : Int) (ht : way ax ay bx b_y cx cy = t) (hu : way bx b_y ax ay cx cy = u) (hv : way bx b_y cx cy ax ay = t) (hwn : wrap64 (-t) = u) (w : World) :
    Calls Try.prog 6 #[pI ax ay, pI bx b_y, pI cx cy] w fun e w' => e = .returned (.bool true) ∧ Below w.heap.size w w' := by
  have HT := Lib.hid ht
  have HU := Lib.hid hu
  have HV := Lib.hid hv
  clear ht hu hv
  go_enter Try.func6, Try.ntmps6
  go_wp2_with fail
  first | refine calls_w ?_ | refine name_world ?_
  intro W hW
  have ka : PVar W (w.heap.size) ax ay := by rw [hW]; exact (Blk.new w _ _) |>.alloc _ |>.alloc _
  have kb : PVar W (w.heap.size + 1) bx b_y := by rw [hW]; exact (Blk.new1 w _ _ _) |>.alloc _
  have kc : PVar W (w.heap.size + 1 + 1) cx cy := by rw [hW]; exact (Blk.new2 w _ _ _ _)
  have hb0 : Below w.heap.size w W := by rw [hW]; exact below_a3 _ _ _ _
  clear hW
  refine (Turn_is ax ay bx b_y cx cy t HT.out _).mono ?_
  rintro e u1 ⟨rfl, hn⟩
  replace ka : PVar u1 _ _ _ := ka.of hn
  replace kb : PVar u1 _ _ _ := kb.of hn
  replace kc : PVar u1 _ _ _ := kc.of hn
  replace hb0 := hb0.trans (hn.mono hb0.size)
  clear hn 
  have ca := PVar.c ka
  have la := ka.lt
  have cb := PVar.c kb
  have lb := kb.lt
  have cc := PVar.c kc
  have lc := kc.lt
  have KA := Lib.hid ka
  have KB := Lib.hid kb
  have KC := Lib.hid kc
  clear ka kb kc
  go_wp2_with fail
  refine wp_region_up u1.heap.size 24 [(true, 0), (true, 1), (true, 3), (true, 5), (false, 2), (false, 4), (false, 6), (false, 7), (true, 8), (true, 9), (true, 10), (true, 11), (true, 12), (true, 14), (true, 15), (false, 13), (true, 16), (true, 17), (true, 18), (true, 19), (true, 20), (true, 21), (true, 23), (false, 22)] (by kernel_rfl) (by kernel_rfl) (fun _ _ d _ _ h => by cases d <;> exact h) ?_
  have hb : Below u1.heap.size u1 u1.drew := (Below.refl _ _).drew
  iterate 4
    refine wpS_takeL rfl rfl ?_
    go_big_quiet_step (rfl)
    refine wpQuiet_nil ?_
  refine wpS_doL rfl ?_
  intro K hK
  go_wp2_with ((first | (go_at_call 39; (with_reducible refine (pref_any ax ay _).mono ?_); rintro e w2 ⟨rfl, hn⟩) | (go_at_call 39; (with_reducible refine (pref_any bx b_y _).mono ?_); rintro e w2 ⟨rfl, hn⟩) | (go_at_call 39; (with_reducible refine (pref_any cx cy _).mono ?_); rintro e w2 ⟨rfl, hn⟩) | (go_at_call 38; (with_reducible refine (Way_is ax ay bx b_y cx cy t HT.out _).mono ?_); rintro e w2 ⟨rfl, hn⟩) | (go_at_call 37; (with_reducible refine (Turn_is bx b_y ax ay cx cy u HU.out _).mono ?_); rintro e w2 ⟨rfl, hn⟩) | (go_at_call 37; (with_reducible refine (Turn_is bx b_y cx cy ax ay t HV.out _).mono ?_); rintro e w2 ⟨rfl, hn⟩)))
  replace hb := hb.trans (hn.mono hb.size)
  refine hK.out _ _ (up_iff.2 hb) ?_
  clear hK K
  clear hn
  refine wpS_doL rfl ?_
  intro K hK
  go_wp2_with ((first | (go_at_call 39; (with_reducible refine (pref_any ax ay _).mono ?_); rintro e w2 ⟨rfl, hn⟩) | (go_at_call 39; (with_reducible refine (pref_any bx b_y _).mono ?_); rintro e w2 ⟨rfl, hn⟩) | (go_at_call 39; (with_reducible refine (pref_any cx cy _).mono ?_); rintro e w2 ⟨rfl, hn⟩) | (go_at_call 38; (with_reducible refine (Way_is ax ay bx b_y cx cy t HT.out _).mono ?_); rintro e w2 ⟨rfl, hn⟩) | (go_at_call 37; (with_reducible refine (Turn_is bx b_y ax ay cx cy u HU.out _).mono ?_); rintro e w2 ⟨rfl, hn⟩) | (go_at_call 37; (with_reducible refine (Turn_is bx b_y cx cy ax ay t HV.out _).mono ?_); rintro e w2 ⟨rfl, hn⟩)))
  replace hb := hb.trans (hn.mono hb.size)
  refine hK.out _ _ (up_iff.2 hb) ?_
  clear hK K
  clear hn
  refine wpS_doL rfl ?_
  intro K hK
  go_wp2_with ((first | (go_at_call 39; (with_reducible refine (pref_any ax ay _).mono ?_); rintro e w2 ⟨rfl, hn⟩) | (go_at_call 39; (with_reducible refine (pref_any bx b_y _).mono ?_); rintro e w2 ⟨rfl, hn⟩) | (go_at_call 39; (with_reducible refine (pref_any cx cy _).mono ?_); rintro e w2 ⟨rfl, hn⟩) | (go_at_call 38; (with_reducible refine (Way_is ax ay bx b_y cx cy t HT.out _).mono ?_); rintro e w2 ⟨rfl, hn⟩) | (go_at_call 37; (with_reducible refine (Turn_is bx b_y ax ay cx cy u HU.out _).mono ?_); rintro e w2 ⟨rfl, hn⟩) | (go_at_call 37; (with_reducible refine (Turn_is bx b_y cx cy ax ay t HV.out _).mono ?_); rintro e w2 ⟨rfl, hn⟩)))
  replace hb := hb.trans (hn.mono hb.size)
  refine hK.out _ _ (up_iff.2 hb) ?_
  clear hK K
  clear hn
  refine wpS_doL rfl ?_
  intro K hK
  go_wp2_with ((first | (go_at_call 39; (with_reducible refine (pref_any ax ay _).mono ?_); rintro e w2 ⟨rfl, hn⟩) | (go_at_call 39; (with_reducible refine (pref_any bx b_y _).mono ?_); rintro e w2 ⟨rfl, hn⟩) | (go_at_call 39; (with_reducible refine (pref_any cx cy _).mono ?_); rintro e w2 ⟨rfl, hn⟩) | (go_at_call 38; (with_reducible refine (Way_is ax ay bx b_y cx cy t HT.out _).mono ?_); rintro e w2 ⟨rfl, hn⟩) | (go_at_call 37; (with_reducible refine (Turn_is bx b_y ax ay cx cy u HU.out _).mono ?_); rintro e w2 ⟨rfl, hn⟩) | (go_at_call 37; (with_reducible refine (Turn_is bx b_y cx cy ax ay t HV.out _).mono ?_); rintro e w2 ⟨rfl, hn⟩)))
  replace hb := hb.trans (hn.mono hb.size)
  refine hK.out _ _ (up_iff.2 hb) ?_
  clear hK K
  clear hn
  iterate 7
    refine wpS_takeL rfl rfl ?_
    go_big_quiet_step (rfl)
    refine wpQuiet_nil ?_
  refine wpS_doL rfl ?_
  intro K hK
  go_wp2_with ((first | (go_at_call 39; (with_reducible refine (pref_any ax ay _).mono ?_); rintro e w2 ⟨rfl, hn⟩) | (go_at_call 39; (with_reducible refine (pref_any bx b_y _).mono ?_); rintro e w2 ⟨rfl, hn⟩) | (go_at_call 39; (with_reducible refine (pref_any cx cy _).mono ?_); rintro e w2 ⟨rfl, hn⟩) | (go_at_call 38; (with_reducible refine (Way_is ax ay bx b_y cx cy t HT.out _).mono ?_); rintro e w2 ⟨rfl, hn⟩) | (go_at_call 37; (with_reducible refine (Turn_is bx b_y ax ay cx cy u HU.out _).mono ?_); rintro e w2 ⟨rfl, hn⟩) | (go_at_call 37; (with_reducible refine (Turn_is bx b_y cx cy ax ay t HV.out _).mono ?_); rintro e w2 ⟨rfl, hn⟩)))
  try replace hb := hb.trans (hn.mono hb.size)
  refine hK.out _ _ (up_iff.2 hb) ?_
  clear hK K
  try clear hn
  iterate 7
    refine wpS_takeL rfl rfl ?_
    go_big_quiet_step (rfl)
    refine wpQuiet_nil ?_
  refine wpS_doL rfl ?_
  intro K hK
  go_wp2_with ((first | (go_at_call 39; (with_reducible refine (pref_any ax ay _).mono ?_); rintro e w2 ⟨rfl, hn⟩) | (go_at_call 39; (with_reducible refine (pref_any bx b_y _).mono ?_); rintro e w2 ⟨rfl, hn⟩) | (go_at_call 39; (with_reducible refine (pref_any cx cy _).mono ?_); rintro e w2 ⟨rfl, hn⟩) | (go_at_call 38; (with_reducible refine (Way_is ax ay bx b_y cx cy t HT.out _).mono ?_); rintro e w2 ⟨rfl, hn⟩) | (go_at_call 37; (with_reducible refine (Turn_is bx b_y ax ay cx cy u HU.out _).mono ?_); rintro e w2 ⟨rfl, hn⟩) | (go_at_call 37; (with_reducible refine (Turn_is bx b_y cx cy ax ay t HV.out _).mono ?_); rintro e w2 ⟨rfl, hn⟩)))
  try replace hb := hb.trans (hn.mono hb.size)
  refine hK.out _ _ (up_iff.2 hb) ?_
  clear hK K
  try clear hn
  refine wpS_nil ?_
  simp only [List.drop_succ_cons, List.drop_zero]
  have ka := KA.out.of hb
  have kb := KB.out.of hb
  have kc := KC.out.of hb
  replace hb0 := hb0.trans (hb.mono hb0.size)
  clear hb KA KB KC
  clear ca la cb lb cc lc
  have ca := PVar.c ka
  have la := ka.lt
  have cb := PVar.c kb
  have lb := kb.lt
  have cc := PVar.c kc
  have lc := kc.lt
  go_wp2_with fail
  clear ca la cb lb cc lc
  refine (pawake_any _).mono ?_
  rintro e u2 ⟨rfl, hn⟩
  replace ka : PVar u2 _ _ _ := ka.of hn
  replace kb : PVar u2 _ _ _ := kb.of hn
  replace kc : PVar u2 _ _ _ := kc.of hn
  replace hb0 := hb0.trans (hn.mono hb0.size)
  clear hn 
  go_wp2
  go_ret
  exact ⟨by simp, hb0⟩

theorem PTurns_any (ax ay bx b_y cx cy : Int) (w : World) :
    Calls Try.prog 6 #[pI ax ay, pI bx b_y, pI cx cy] w fun e w' => e = .returned (.bool true) ∧ Below w.heap.size w w' :=
  PTurns_go ax ay bx b_y cx cy _ _ rfl (way_swap _ _ _ _ _ _) (way_rot _ _ _ _ _ _) (by
    rcases way_cases ax ay bx b_y cx cy with h | h | h <;> rw [h] <;> unfold wrap64 <;> omega) w
end Go.Proofs.Ytgddpkopbiendaa
