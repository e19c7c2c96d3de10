/- The walk of gromalaw03's PointOn. Conditions: none. -/
import Derived.Test.YtgddpkopbiendaaPntQ
namespace Go.Proofs.Ytgddpkopbiendaa
open Go.RowKit

theorem rOn_is (ax ay bx b_y cx cy : Int) (r : Bool) (h : onB ax ay bx b_y cx cy = r) (w : World) :
    Calls Try.prog 46 #[pI ax ay, pI bx b_y, pI cx cy] w fun e w' => e = .returned (.bool r) ∧ Below w.heap.size w w' := h ▸ rOn_any ax ay bx b_y cx cy w
theorem uRight_is (x y : Int) (r : Bool) (h : rp x y = r) (w : World) : Calls Try.prog 43 #[pI x y] w fun e w' => e = .returned (.bool r) ∧ Below w.heap.size w w' := h ▸ PtRight_any x y w
set_option maxRecDepth 100000 in
set_option maxHeartbeats 2000000 in
theorem POn_go (ax ay bx b_y cx cy : Int) (o r x y : Bool) (ho : onB ax ay bx b_y cx cy = o) (hs : onB bx b_y ax ay cx cy = o) (he : onB ax ay bx b_y ax ay = r) (hr : r = (x && y)) (hx : rp ax ay = x) (hy : rp bx b_y = y) (w : World) :
    Calls Try.prog 8 #[pI ax ay, pI bx b_y, pI cx cy] w fun e w' => e = .returned (.bool true) ∧ Below w.heap.size w w' := by
  have HO := Lib.hid ho
  have HS := Lib.hid hs
  have HE := Lib.hid he
  have HR := Lib.hid hr
  have HX := Lib.hid hx
  have HY := Lib.hid hy
  clear ho hs he hr hx hy
  go_enter Try.func8, Try.ntmps8
  go_wp2_with fail
  first | refine calls_w ?_ | refine name_world ?_
  intro W hW
  have ka : PVar W (w.heap.size) ax ay := by rw [hW]; exact (Blk.new w _ _) |>.alloc _ |>.alloc _
  have kb : PVar W (w.heap.size + 1) bx b_y := by rw [hW]; exact (Blk.new1 w _ _ _) |>.alloc _
  have kc : PVar W (w.heap.size + 1 + 1) cx cy := by rw [hW]; exact (Blk.new2 w _ _ _ _)
  have hb0 : Below w.heap.size w W := by rw [hW]; exact below_a3 _ _ _ _
  clear hW
  have ca := PVar.c ka
  have la := ka.lt
  have cb := PVar.c kb
  have lb := kb.lt
  have cc := PVar.c kc
  have lc := kc.lt
  have KA := Lib.hid ka
  have KB := Lib.hid kb
  have KC := Lib.hid kc
  clear ka kb kc
  refine wp_region_up W.heap.size 29 [(true, 0), (true, 1), (true, 2), (true, 4), (true, 6), (true, 8), (false, 3), (false, 5), (false, 7), (false, 9), (false, 10), (true, 11), (true, 12), (true, 13), (true, 14), (true, 15), (true, 17), (true, 18), (true, 19), (false, 16), (false, 20), (true, 21), (true, 22), (true, 23), (true, 24), (true, 25), (true, 26), (true, 28), (false, 27)] (by kernel_rfl) (by kernel_rfl) (fun _ _ d _ _ h => by cases d <;> exact h) ?_
  have hb : Below W.heap.size W W.drew := (Below.refl _ _).drew
  iterate 6
    refine wpS_takeL rfl rfl ?_
    go_big_quiet_step (rfl)
    refine wpQuiet_nil ?_
  refine wpS_doL rfl ?_
  intro K hK
  go_wp2_with ((first | (go_at_call 39; (with_reducible refine (pref_any ax ay _).mono ?_); rintro e w2 ⟨rfl, hn⟩) | (go_at_call 39; (with_reducible refine (pref_any bx b_y _).mono ?_); rintro e w2 ⟨rfl, hn⟩) | (go_at_call 39; (with_reducible refine (pref_any cx cy _).mono ?_); rintro e w2 ⟨rfl, hn⟩) | (go_at_call 46; (with_reducible refine (rOn_is ax ay bx b_y cx cy o HO.out _).mono ?_); rintro e w2 ⟨rfl, hn⟩) | (go_at_call 45; (with_reducible refine (On_is ax ay bx b_y cx cy o HO.out _).mono ?_); rintro e w2 ⟨rfl, hn⟩) | (go_at_call 45; (with_reducible refine (On_is bx b_y ax ay cx cy o HS.out _).mono ?_); rintro e w2 ⟨rfl, hn⟩) | (go_at_call 45; (with_reducible refine (On_is ax ay bx b_y ax ay r HE.out _).mono ?_); rintro e w2 ⟨rfl, hn⟩)))
  replace hb := hb.trans (hn.mono hb.size)
  refine hK.out _ _ (up_iff.2 hb) ?_
  clear hK K
  clear hn
  refine wpS_doL rfl ?_
  intro K hK
  go_wp2_with ((first | (go_at_call 39; (with_reducible refine (pref_any ax ay _).mono ?_); rintro e w2 ⟨rfl, hn⟩) | (go_at_call 39; (with_reducible refine (pref_any bx b_y _).mono ?_); rintro e w2 ⟨rfl, hn⟩) | (go_at_call 39; (with_reducible refine (pref_any cx cy _).mono ?_); rintro e w2 ⟨rfl, hn⟩) | (go_at_call 46; (with_reducible refine (rOn_is ax ay bx b_y cx cy o HO.out _).mono ?_); rintro e w2 ⟨rfl, hn⟩) | (go_at_call 45; (with_reducible refine (On_is ax ay bx b_y cx cy o HO.out _).mono ?_); rintro e w2 ⟨rfl, hn⟩) | (go_at_call 45; (with_reducible refine (On_is bx b_y ax ay cx cy o HS.out _).mono ?_); rintro e w2 ⟨rfl, hn⟩) | (go_at_call 45; (with_reducible refine (On_is ax ay bx b_y ax ay r HE.out _).mono ?_); rintro e w2 ⟨rfl, hn⟩)))
  replace hb := hb.trans (hn.mono hb.size)
  refine hK.out _ _ (up_iff.2 hb) ?_
  clear hK K
  clear hn
  refine wpS_doL rfl ?_
  intro K hK
  go_wp2_with ((first | (go_at_call 39; (with_reducible refine (pref_any ax ay _).mono ?_); rintro e w2 ⟨rfl, hn⟩) | (go_at_call 39; (with_reducible refine (pref_any bx b_y _).mono ?_); rintro e w2 ⟨rfl, hn⟩) | (go_at_call 39; (with_reducible refine (pref_any cx cy _).mono ?_); rintro e w2 ⟨rfl, hn⟩) | (go_at_call 46; (with_reducible refine (rOn_is ax ay bx b_y cx cy o HO.out _).mono ?_); rintro e w2 ⟨rfl, hn⟩) | (go_at_call 45; (with_reducible refine (On_is ax ay bx b_y cx cy o HO.out _).mono ?_); rintro e w2 ⟨rfl, hn⟩) | (go_at_call 45; (with_reducible refine (On_is bx b_y ax ay cx cy o HS.out _).mono ?_); rintro e w2 ⟨rfl, hn⟩) | (go_at_call 45; (with_reducible refine (On_is ax ay bx b_y ax ay r HE.out _).mono ?_); rintro e w2 ⟨rfl, hn⟩)))
  replace hb := hb.trans (hn.mono hb.size)
  refine hK.out _ _ (up_iff.2 hb) ?_
  clear hK K
  clear hn
  refine wpS_doL rfl ?_
  intro K hK
  go_wp2_with ((first | (go_at_call 39; (with_reducible refine (pref_any ax ay _).mono ?_); rintro e w2 ⟨rfl, hn⟩) | (go_at_call 39; (with_reducible refine (pref_any bx b_y _).mono ?_); rintro e w2 ⟨rfl, hn⟩) | (go_at_call 39; (with_reducible refine (pref_any cx cy _).mono ?_); rintro e w2 ⟨rfl, hn⟩) | (go_at_call 46; (with_reducible refine (rOn_is ax ay bx b_y cx cy o HO.out _).mono ?_); rintro e w2 ⟨rfl, hn⟩) | (go_at_call 45; (with_reducible refine (On_is ax ay bx b_y cx cy o HO.out _).mono ?_); rintro e w2 ⟨rfl, hn⟩) | (go_at_call 45; (with_reducible refine (On_is bx b_y ax ay cx cy o HS.out _).mono ?_); rintro e w2 ⟨rfl, hn⟩) | (go_at_call 45; (with_reducible refine (On_is ax ay bx b_y ax ay r HE.out _).mono ?_); rintro e w2 ⟨rfl, hn⟩)))
  replace hb := hb.trans (hn.mono hb.size)
  refine hK.out _ _ (up_iff.2 hb) ?_
  clear hK K
  clear hn
  refine wpS_doL rfl ?_
  intro K hK
  go_wp2_with ((first | (go_at_call 39; (with_reducible refine (pref_any ax ay _).mono ?_); rintro e w2 ⟨rfl, hn⟩) | (go_at_call 39; (with_reducible refine (pref_any bx b_y _).mono ?_); rintro e w2 ⟨rfl, hn⟩) | (go_at_call 39; (with_reducible refine (pref_any cx cy _).mono ?_); rintro e w2 ⟨rfl, hn⟩) | (go_at_call 46; (with_reducible refine (rOn_is ax ay bx b_y cx cy o HO.out _).mono ?_); rintro e w2 ⟨rfl, hn⟩) | (go_at_call 45; (with_reducible refine (On_is ax ay bx b_y cx cy o HO.out _).mono ?_); rintro e w2 ⟨rfl, hn⟩) | (go_at_call 45; (with_reducible refine (On_is bx b_y ax ay cx cy o HS.out _).mono ?_); rintro e w2 ⟨rfl, hn⟩) | (go_at_call 45; (with_reducible refine (On_is ax ay bx b_y ax ay r HE.out _).mono ?_); rintro e w2 ⟨rfl, hn⟩)))
  replace hb := hb.trans (hn.mono hb.size)
  refine hK.out _ _ (up_iff.2 hb) ?_
  clear hK K
  clear hn
  iterate 8
    refine wpS_takeL rfl rfl ?_
    go_big_quiet_step (rfl)
    refine wpQuiet_nil ?_
  refine wpS_doL rfl ?_
  intro K hK
  go_wp2_with ((first | (go_at_call 39; (with_reducible refine (pref_any ax ay _).mono ?_); rintro e w2 ⟨rfl, hn⟩) | (go_at_call 39; (with_reducible refine (pref_any bx b_y _).mono ?_); rintro e w2 ⟨rfl, hn⟩) | (go_at_call 39; (with_reducible refine (pref_any cx cy _).mono ?_); rintro e w2 ⟨rfl, hn⟩) | (go_at_call 46; (with_reducible refine (rOn_is ax ay bx b_y cx cy o HO.out _).mono ?_); rintro e w2 ⟨rfl, hn⟩) | (go_at_call 45; (with_reducible refine (On_is ax ay bx b_y cx cy o HO.out _).mono ?_); rintro e w2 ⟨rfl, hn⟩) | (go_at_call 45; (with_reducible refine (On_is bx b_y ax ay cx cy o HS.out _).mono ?_); rintro e w2 ⟨rfl, hn⟩) | (go_at_call 45; (with_reducible refine (On_is ax ay bx b_y ax ay r HE.out _).mono ?_); rintro e w2 ⟨rfl, hn⟩)))
  try replace hb := hb.trans (hn.mono hb.size)
  refine hK.out _ _ (up_iff.2 hb) ?_
  clear hK K
  try clear hn
  refine wpS_doL rfl ?_
  intro K hK
  go_wp2_with ((first | (go_at_call 39; (with_reducible refine (pref_any ax ay _).mono ?_); rintro e w2 ⟨rfl, hn⟩) | (go_at_call 39; (with_reducible refine (pref_any bx b_y _).mono ?_); rintro e w2 ⟨rfl, hn⟩) | (go_at_call 39; (with_reducible refine (pref_any cx cy _).mono ?_); rintro e w2 ⟨rfl, hn⟩) | (go_at_call 46; (with_reducible refine (rOn_is ax ay bx b_y cx cy o HO.out _).mono ?_); rintro e w2 ⟨rfl, hn⟩) | (go_at_call 45; (with_reducible refine (On_is ax ay bx b_y cx cy o HO.out _).mono ?_); rintro e w2 ⟨rfl, hn⟩) | (go_at_call 45; (with_reducible refine (On_is bx b_y ax ay cx cy o HS.out _).mono ?_); rintro e w2 ⟨rfl, hn⟩) | (go_at_call 45; (with_reducible refine (On_is ax ay bx b_y ax ay r HE.out _).mono ?_); rintro e w2 ⟨rfl, hn⟩)))
  try replace hb := hb.trans (hn.mono hb.size)
  refine hK.out _ _ (up_iff.2 hb) ?_
  clear hK K
  try clear hn
  iterate 7
    refine wpS_takeL rfl rfl ?_
    go_big_quiet_step (rfl)
    refine wpQuiet_nil ?_
  refine wpS_doL rfl ?_
  intro K hK
  go_wp2_with ((first | (go_at_call 39; (with_reducible refine (pref_any ax ay _).mono ?_); rintro e w2 ⟨rfl, hn⟩) | (go_at_call 39; (with_reducible refine (pref_any bx b_y _).mono ?_); rintro e w2 ⟨rfl, hn⟩) | (go_at_call 39; (with_reducible refine (pref_any cx cy _).mono ?_); rintro e w2 ⟨rfl, hn⟩) | (go_at_call 46; (with_reducible refine (rOn_is ax ay bx b_y cx cy o HO.out _).mono ?_); rintro e w2 ⟨rfl, hn⟩) | (go_at_call 45; (with_reducible refine (On_is ax ay bx b_y cx cy o HO.out _).mono ?_); rintro e w2 ⟨rfl, hn⟩) | (go_at_call 45; (with_reducible refine (On_is bx b_y ax ay cx cy o HS.out _).mono ?_); rintro e w2 ⟨rfl, hn⟩) | (go_at_call 45; (with_reducible refine (On_is ax ay bx b_y ax ay r HE.out _).mono ?_); rintro e w2 ⟨rfl, hn⟩)))
  try replace hb := hb.trans (hn.mono hb.size)
  refine hK.out _ _ (up_iff.2 hb) ?_
  clear hK K
  try clear hn
  refine wpS_nil ?_
  simp only [List.drop_succ_cons, List.drop_zero]
  have ka := KA.out.of hb
  have kb := KB.out.of hb
  have kc := KC.out.of hb
  replace hb0 := hb0.trans (hb.mono hb0.size)
  clear hb KA KB KC
  clear ca la cb lb cc lc
  have ca := PVar.c ka
  have la := ka.lt
  have cb := PVar.c kb
  have lb := kb.lt
  have cc := PVar.c kc
  have lc := kc.lt
  go_wp2_with fail
  clear ca la cb lb cc lc
  refine (uRight_is ax ay x HX.out _).mono ?_
  rintro e u1 ⟨rfl, hn⟩
  replace ka : PVar u1 _ _ _ := ka.of hn
  replace kb : PVar u1 _ _ _ := kb.of hn
  replace kc : PVar u1 _ _ _ := kc.of hn
  replace hb0 := hb0.trans (hn.mono hb0.size)
  clear hn 
  cases x
  · have ca := PVar.c ka
    have la := ka.lt
    have cb := PVar.c kb
    have lb := kb.lt
    have cc := PVar.c kc
    have lc := kc.lt
    obtain rfl : r = false := HR.out
    go_wp2_with fail
    clear ca la cb lb cc lc
    refine (pawake_any _).mono ?_
    rintro e u2 ⟨rfl, hn⟩
    replace ka : PVar u2 _ _ _ := ka.of hn
    replace kb : PVar u2 _ _ _ := kb.of hn
    replace kc : PVar u2 _ _ _ := kc.of hn
    replace hb0 := hb0.trans (hn.mono hb0.size)
    clear hn 
    go_wp2
    go_ret
    exact ⟨by simp, hb0⟩
  · have ca := PVar.c ka
    have la := ka.lt
    have cb := PVar.c kb
    have lb := kb.lt
    have cc := PVar.c kc
    have lc := kc.lt
    obtain rfl : r = y := HR.out
    go_wp2_with fail
    clear ca la cb lb cc lc
    refine (uRight_is bx b_y r HY.out _).mono ?_
    rintro e u2 ⟨rfl, hn⟩
    replace ka : PVar u2 _ _ _ := ka.of hn
    replace kb : PVar u2 _ _ _ := kb.of hn
    replace kc : PVar u2 _ _ _ := kc.of hn
    replace hb0 := hb0.trans (hn.mono hb0.size)
    clear hn 
    have ca := PVar.c ka
    have la := ka.lt
    have cb := PVar.c kb
    have lb := kb.lt
    have cc := PVar.c kc
    have lc := kc.lt
    go_wp2_with fail
    clear ca la cb lb cc lc
    refine (pawake_any _).mono ?_
    rintro e u3 ⟨rfl, hn⟩
    replace ka : PVar u3 _ _ _ := ka.of hn
    replace kb : PVar u3 _ _ _ := kb.of hn
    replace kc : PVar u3 _ _ _ := kc.of hn
    replace hb0 := hb0.trans (hn.mono hb0.size)
    clear hn 
    go_wp2
    go_ret
    exact ⟨by simp, hb0⟩

theorem POn_any (ax ay bx b_y cx cy : Int) (w : World) :
    Calls Try.prog 8 #[pI ax ay, pI bx b_y, pI cx cy] w fun e w' => e = .returned (.bool true) ∧ Below w.heap.size w w' :=
  POn_go ax ay bx b_y cx cy _ _ _ _ rfl (onB_swap _ _ _ _ _ _) rfl (onB_end _ _ _ _) rfl rfl w
end Go.Proofs.Ytgddpkopbiendaa
