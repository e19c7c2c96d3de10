/- The walk of gromalaw03's PointOrders. Conditions: none. -/
import Derived.Test.YtgddpkopbiendaaPntA
namespace Go.Proofs.Ytgddpkopbiendaa
open Go.RowKit

theorem PtRight_is (x y : Int) (r : Bool) (h : rp x y = r) (w : World) : Calls Try.prog 43 #[pI x y] w fun e w' => e = .returned (.bool r) ∧ Below w.heap.size w w' := h ▸ PtRight_any x y w
theorem rRight_is (x y : Int) (r : Bool) (h : rp x y = r) (w : World) : Calls Try.prog 44 #[pI x y] w fun e w' => e = .returned (.bool r) ∧ Below w.heap.size w w' := h ▸ rRight_any x y w
theorem Ahead_is (ax ay bx b_y : Int) (r : Bool) (h : ahd ax ay bx b_y = r) (w : World) : Calls Try.prog 41 #[pI ax ay, pI bx b_y] w fun e w' => e = .returned (.bool r) ∧ Below w.heap.size w w' := h ▸ Ahead_any ax ay bx b_y w
theorem cmpP_self (a b : Int) : cmpP a b a b = 0 := by unfold cmpP; rw [cmpI_eq, cmpI_eq]; rfl
theorem cmpP_lt {ax ay bx b_y : Int} (h : ax < bx ∨ ax = bx ∧ ay < b_y) : cmpP ax ay bx b_y = -1 ∧ cmpP bx b_y ax ay = 1 := by
  unfold cmpP
  rcases h with h | ⟨rfl, h⟩
  · rw [cmpI_lt h, cmpI_gt h]; exact ⟨rfl, rfl⟩
  · rw [cmpI_eq, cmpI_lt h, cmpI_gt h]; exact ⟨rfl, rfl⟩
theorem ahd_true {ax ay bx b_y : Int} (h : ahd ax ay bx b_y = true) : ax < bx ∨ ax = bx ∧ ay < b_y := by
  unfold ahd at h; simpa using h
theorem ahd_false {ax ay bx b_y : Int} (h : ahd ax ay bx b_y = false) (hz : ¬(ax = bx ∧ ay = b_y)) : bx < ax ∨ bx = ax ∧ b_y < ay := by
  have h2 : ¬(ax < bx ∨ ax = bx ∧ ay < b_y) := fun h3 => by
    have : ahd ax ay bx b_y = true := by unfold ahd; simpa using h3
    rw [h] at this; cases this
  omega

set_option maxRecDepth 100000 in
set_option maxHeartbeats 2000000 in
theorem POrders_eq (ax ay bx b_y : Int) (h1 : ax = bx) (h2 : ay = b_y) (w : World) : Calls Try.prog 7 #[pI ax ay, pI bx b_y] w fun e w' => e = .returned (.bool true) ∧ Below w.heap.size w w' := by
  subst h1; subst h2
  obtain ⟨r, hr⟩ : ∃ r, rp ax ay = r := ⟨_, rfl⟩
  have HR := Lib.hid hr
  have C1 := Lib.hid (cmpP_self ax ay)
  clear hr
  go_enter Try.func7, Try.ntmps7
  go_wp2_with fail
  refine name_world ?_
  intro W hW
  have ka : PVar W w.heap.size ax ay := by rw [hW]; exact (Blk.new w _ _).alloc _
  have kb : PVar W (w.heap.size + 1) ax ay := by rw [hW]; exact Blk.new1 w _ _ _
  have hb0 : Below w.heap.size w W := by rw [hW]; exact below_a2 _ _ _
  clear hW
  have ca := PVar.c ka
  have cb := PVar.c kb
  have la := ka.lt
  have lb := kb.lt
  clear ka kb
  go_wp2_with fail
  refine wp_region_up W.heap.size 17 [(true, 0), (true, 1), (true, 3), (false, 2), (true, 4), (true, 5), (true, 6), (true, 7), (true, 9), (true, 10), (false, 8), (true, 11), (true, 12), (true, 13), (true, 14), (true, 16), (false, 15)] (by kernel_rfl) (by kernel_rfl) (fun _ _ d _ _ h => by cases d <;> exact h) ?_
  have hb : Below W.heap.size W W.drew := (Below.refl _ _).drew
  iterate 3
    refine wpS_takeL rfl rfl ?_
    go_big_quiet_step (rfl)
    refine wpQuiet_nil ?_
  refine wpS_doL rfl ?_
  intro K hK
  go_wp2_with ((first | (go_at_call 42; (with_reducible refine (PtCmp_is ax ay ax ay 0 C1.out _).mono ?_); rintro e w2 ⟨rfl, hn⟩) | (go_at_call 42; (with_reducible refine (PtCmp_is ax ay ax ay 0 C1.out _).mono ?_); rintro e w2 ⟨rfl, hn⟩) | (go_at_call 43; (with_reducible refine (PtRight_is ax ay r HR.out _).mono ?_); rintro e w2 ⟨rfl, hn⟩)))
  replace hb := hb.trans (hn.mono hb.size)
  refine hK.out _ _ (up_iff.2 hb) ?_
  clear hK K
  clear hn
  iterate 6
    refine wpS_takeL rfl rfl ?_
    go_big_quiet_step (rfl)
    refine wpQuiet_nil ?_
  refine wpS_doL rfl ?_
  intro K hK
  go_wp2_with ((first | (go_at_call 42; (with_reducible refine (PtCmp_is ax ay ax ay 0 C1.out _).mono ?_); rintro e w2 ⟨rfl, hn⟩) | (go_at_call 42; (with_reducible refine (PtCmp_is ax ay ax ay 0 C1.out _).mono ?_); rintro e w2 ⟨rfl, hn⟩) | (go_at_call 43; (with_reducible refine (PtRight_is ax ay r HR.out _).mono ?_); rintro e w2 ⟨rfl, hn⟩)))
  try replace hb := hb.trans (hn.mono hb.size)
  refine hK.out _ _ (up_iff.2 hb) ?_
  clear hK K
  try clear hn
  iterate 5
    refine wpS_takeL rfl rfl ?_
    go_big_quiet_step (rfl)
    refine wpQuiet_nil ?_
  refine wpS_doL rfl ?_
  intro K hK
  go_wp2_with ((first | (go_at_call 42; (with_reducible refine (PtCmp_is ax ay ax ay 0 C1.out _).mono ?_); rintro e w2 ⟨rfl, hn⟩) | (go_at_call 42; (with_reducible refine (PtCmp_is ax ay ax ay 0 C1.out _).mono ?_); rintro e w2 ⟨rfl, hn⟩) | (go_at_call 43; (with_reducible refine (PtRight_is ax ay r HR.out _).mono ?_); rintro e w2 ⟨rfl, hn⟩)))
  try replace hb := hb.trans (hn.mono hb.size)
  refine hK.out _ _ (up_iff.2 hb) ?_
  clear hK K
  try clear hn
  refine wpS_nil ?_
  simp only [List.drop_succ_cons, List.drop_zero]
  replace hb0 := hb0.trans (hb.mono hb0.size)
  clear hb ca cb la lb
  go_wp2_with fail
  refine (pref_any ax ay _).mono ?_
  rintro e v4 ⟨rfl, hn⟩
  replace hb0 := hb0.trans (hn.mono hb0.size)
  clear hn
  go_wp2_with fail
  refine (rRight_is ax ay r HR.out _).mono ?_
  rintro e v5 ⟨rfl, hn⟩
  replace hb0 := hb0.trans (hn.mono hb0.size)
  clear hn
  go_wp2_with fail
  refine (pawake_any _).mono ?_
  rintro e v6 ⟨rfl, hn⟩
  replace hb0 := hb0.trans (hn.mono hb0.size)
  clear hn
  go_wp2
  go_ret
  exact ⟨by simp, hb0⟩

set_option maxRecDepth 100000 in
set_option maxHeartbeats 2000000 in
theorem POrders_ne (ax ay bx b_y t u : Int) (h : Bool) (hz : ¬ax = bx) (hh : ahd ax ay bx b_y = h) (ht : t = bif h then -1 else 1) (hu : u = bif h then 1 else -1) (hc1 : cmpP ax ay bx b_y = t) (hc2 : cmpP bx b_y ax ay = u) (w : World) : Calls Try.prog 7 #[pI ax ay, pI bx b_y] w fun e w' => e = .returned (.bool true) ∧ Below w.heap.size w w' := by
  obtain ⟨r, hr⟩ : ∃ r, rp ax ay = r := ⟨_, rfl⟩
  have HR := Lib.hid hr
  have C1 := Lib.hid hc1
  have C2 := Lib.hid hc2
  have HH := Lib.hid hh
  have HT := Lib.hid ht
  have HU := Lib.hid hu
  clear hr hc1 hc2 hh ht hu
  go_enter Try.func7, Try.ntmps7
  go_wp2_with fail
  refine name_world ?_
  intro W hW
  have ka : PVar W w.heap.size ax ay := by rw [hW]; exact (Blk.new w _ _).alloc _
  have kb : PVar W (w.heap.size + 1) bx b_y := by rw [hW]; exact Blk.new1 w _ _ _
  have hb0 : Below w.heap.size w W := by rw [hW]; exact below_a2 _ _ _
  clear hW
  have ca := PVar.c ka
  have cb := PVar.c kb
  have la := ka.lt
  have lb := kb.lt
  have KA := Lib.hid ka
  have KB := Lib.hid kb
  clear ka kb
  refine wp_region_up W.heap.size 3 [(true, 0), (true, 2), (false, 1)] (by kernel_rfl) (by kernel_rfl) (fun _ _ d _ _ h => by cases d <;> exact h) ?_
  have hb : Below W.heap.size W W.drew := (Below.refl _ _).drew
  iterate 2
    refine wpS_takeL rfl rfl ?_
    go_big_quiet_step (rfl)
    refine wpQuiet_nil ?_
  refine wpS_doL rfl ?_
  intro K hK
  go_wp2_with ((first | (go_at_call 39; (with_reducible refine (pref_any ax ay _).mono ?_); rintro e w2 ⟨rfl, hn⟩) | (go_at_call 39; (with_reducible refine (pref_any bx b_y _).mono ?_); rintro e w2 ⟨rfl, hn⟩)))
  replace hb := hb.trans (hn.mono hb.size)
  refine hK.out _ _ (up_iff.2 hb) ?_
  clear hK K
  clear hn
  refine wpS_nil ?_
  simp only [List.drop_succ_cons, List.drop_zero]
  have ka := KA.out.of hb
  have kb := KB.out.of hb
  replace hb0 := hb0.trans (hb.mono hb0.size)
  clear hb ca cb la lb KA KB
  go_wp2_with fail
  refine (pref_any bx b_y _).mono ?_
  rintro e u1 ⟨rfl, hn⟩
  replace ka : PVar u1 _ _ _ := ka.of hn
  replace kb : PVar u1 _ _ _ := kb.of hn
  replace hb0 := hb0.trans (hn.mono hb0.size)
  clear hn
  go_wp2_with fail
  refine (Ahead_is ax ay bx b_y h HH.out _).mono ?_
  rintro e u2 ⟨rfl, hn⟩
  replace ka : PVar u2 _ _ _ := ka.of hn
  replace kb : PVar u2 _ _ _ := kb.of hn
  replace hb0 := hb0.trans (hn.mono hb0.size)
  clear hn
  cases h
  · obtain rfl : t = 1 := HT.out
    obtain rfl : u = -1 := HU.out
    have ca := PVar.c ka
    have cb := PVar.c kb
    have la := ka.lt
    have lb := kb.lt
    clear ka kb
    go_wp2_with fail
    refine wp_region_up u2.heap.size 17 [(true, 0), (true, 1), (true, 3), (false, 2), (true, 4), (true, 5), (true, 6), (true, 7), (true, 9), (true, 10), (false, 8), (true, 11), (true, 12), (true, 13), (true, 14), (true, 16), (false, 15)] (by kernel_rfl) (by kernel_rfl) (fun _ _ d _ _ h => by cases d <;> exact h) ?_
    have hb : Below u2.heap.size u2 u2.drew := (Below.refl _ _).drew
    iterate 3
      refine wpS_takeL rfl rfl ?_
      go_big_quiet_step (rfl)
      refine wpQuiet_nil ?_
    refine wpS_doL rfl ?_
    intro K hK
    go_wp2_with ((first | (go_at_call 42; (with_reducible refine (PtCmp_is ax ay bx b_y 1 C1.out _).mono ?_); rintro e w2 ⟨rfl, hn⟩) | (go_at_call 42; (with_reducible refine (PtCmp_is bx b_y ax ay (-1) C2.out _).mono ?_); rintro e w2 ⟨rfl, hn⟩) | (go_at_call 43; (with_reducible refine (PtRight_is ax ay r HR.out _).mono ?_); rintro e w2 ⟨rfl, hn⟩)))
    replace hb := hb.trans (hn.mono hb.size)
    refine hK.out _ _ (up_iff.2 hb) ?_
    clear hK K
    clear hn
    iterate 6
      refine wpS_takeL rfl rfl ?_
      go_big_quiet_step (rfl)
      refine wpQuiet_nil ?_
    refine wpS_doL rfl ?_
    intro K hK
    go_wp2_with ((first | (go_at_call 42; (with_reducible refine (PtCmp_is ax ay bx b_y 1 C1.out _).mono ?_); rintro e w2 ⟨rfl, hn⟩) | (go_at_call 42; (with_reducible refine (PtCmp_is bx b_y ax ay (-1) C2.out _).mono ?_); rintro e w2 ⟨rfl, hn⟩) | (go_at_call 43; (with_reducible refine (PtRight_is ax ay r HR.out _).mono ?_); rintro e w2 ⟨rfl, hn⟩)))
    try replace hb := hb.trans (hn.mono hb.size)
    refine hK.out _ _ (up_iff.2 hb) ?_
    clear hK K
    try clear hn
    iterate 5
      refine wpS_takeL rfl rfl ?_
      go_big_quiet_step (rfl)
      refine wpQuiet_nil ?_
    refine wpS_doL rfl ?_
    intro K hK
    go_wp2_with ((first | (go_at_call 42; (with_reducible refine (PtCmp_is ax ay bx b_y 1 C1.out _).mono ?_); rintro e w2 ⟨rfl, hn⟩) | (go_at_call 42; (with_reducible refine (PtCmp_is bx b_y ax ay (-1) C2.out _).mono ?_); rintro e w2 ⟨rfl, hn⟩) | (go_at_call 43; (with_reducible refine (PtRight_is ax ay r HR.out _).mono ?_); rintro e w2 ⟨rfl, hn⟩)))
    try replace hb := hb.trans (hn.mono hb.size)
    refine hK.out _ _ (up_iff.2 hb) ?_
    clear hK K
    try clear hn
    refine wpS_nil ?_
    simp only [List.drop_succ_cons, List.drop_zero]
    replace hb0 := hb0.trans (hb.mono hb0.size)
    clear hb ca cb la lb
    go_wp2_with fail
    refine (pref_any ax ay _).mono ?_
    rintro e v4 ⟨rfl, hn⟩
    replace hb0 := hb0.trans (hn.mono hb0.size)
    clear hn
    go_wp2_with fail
    refine (rRight_is ax ay r HR.out _).mono ?_
    rintro e v5 ⟨rfl, hn⟩
    replace hb0 := hb0.trans (hn.mono hb0.size)
    clear hn
    go_wp2_with fail
    refine (pawake_any _).mono ?_
    rintro e v6 ⟨rfl, hn⟩
    replace hb0 := hb0.trans (hn.mono hb0.size)
    clear hn
    go_wp2
    go_ret
    exact ⟨by simp, hb0⟩
  · obtain rfl : t = -1 := HT.out
    obtain rfl : u = 1 := HU.out
    have ca := PVar.c ka
    have cb := PVar.c kb
    have la := ka.lt
    have lb := kb.lt
    clear ka kb
    go_wp2_with fail
    refine wp_region_up u2.heap.size 17 [(true, 0), (true, 1), (true, 3), (false, 2), (true, 4), (true, 5), (true, 6), (true, 7), (true, 9), (true, 10), (false, 8), (true, 11), (true, 12), (true, 13), (true, 14), (true, 16), (false, 15)] (by kernel_rfl) (by kernel_rfl) (fun _ _ d _ _ h => by cases d <;> exact h) ?_
    have hb : Below u2.heap.size u2 u2.drew := (Below.refl _ _).drew
    iterate 3
      refine wpS_takeL rfl rfl ?_
      go_big_quiet_step (rfl)
      refine wpQuiet_nil ?_
    refine wpS_doL rfl ?_
    intro K hK
    go_wp2_with ((first | (go_at_call 42; (with_reducible refine (PtCmp_is ax ay bx b_y (-1) C1.out _).mono ?_); rintro e w2 ⟨rfl, hn⟩) | (go_at_call 42; (with_reducible refine (PtCmp_is bx b_y ax ay 1 C2.out _).mono ?_); rintro e w2 ⟨rfl, hn⟩) | (go_at_call 43; (with_reducible refine (PtRight_is ax ay r HR.out _).mono ?_); rintro e w2 ⟨rfl, hn⟩)))
    replace hb := hb.trans (hn.mono hb.size)
    refine hK.out _ _ (up_iff.2 hb) ?_
    clear hK K
    clear hn
    iterate 6
      refine wpS_takeL rfl rfl ?_
      go_big_quiet_step (rfl)
      refine wpQuiet_nil ?_
    refine wpS_doL rfl ?_
    intro K hK
    go_wp2_with ((first | (go_at_call 42; (with_reducible refine (PtCmp_is ax ay bx b_y (-1) C1.out _).mono ?_); rintro e w2 ⟨rfl, hn⟩) | (go_at_call 42; (with_reducible refine (PtCmp_is bx b_y ax ay 1 C2.out _).mono ?_); rintro e w2 ⟨rfl, hn⟩) | (go_at_call 43; (with_reducible refine (PtRight_is ax ay r HR.out _).mono ?_); rintro e w2 ⟨rfl, hn⟩)))
    try replace hb := hb.trans (hn.mono hb.size)
    refine hK.out _ _ (up_iff.2 hb) ?_
    clear hK K
    try clear hn
    iterate 5
      refine wpS_takeL rfl rfl ?_
      go_big_quiet_step (rfl)
      refine wpQuiet_nil ?_
    refine wpS_doL rfl ?_
    intro K hK
    go_wp2_with ((first | (go_at_call 42; (with_reducible refine (PtCmp_is ax ay bx b_y (-1) C1.out _).mono ?_); rintro e w2 ⟨rfl, hn⟩) | (go_at_call 42; (with_reducible refine (PtCmp_is bx b_y ax ay 1 C2.out _).mono ?_); rintro e w2 ⟨rfl, hn⟩) | (go_at_call 43; (with_reducible refine (PtRight_is ax ay r HR.out _).mono ?_); rintro e w2 ⟨rfl, hn⟩)))
    try replace hb := hb.trans (hn.mono hb.size)
    refine hK.out _ _ (up_iff.2 hb) ?_
    clear hK K
    try clear hn
    refine wpS_nil ?_
    simp only [List.drop_succ_cons, List.drop_zero]
    replace hb0 := hb0.trans (hb.mono hb0.size)
    clear hb ca cb la lb
    go_wp2_with fail
    refine (pref_any ax ay _).mono ?_
    rintro e v4 ⟨rfl, hn⟩
    replace hb0 := hb0.trans (hn.mono hb0.size)
    clear hn
    go_wp2_with fail
    refine (rRight_is ax ay r HR.out _).mono ?_
    rintro e v5 ⟨rfl, hn⟩
    replace hb0 := hb0.trans (hn.mono hb0.size)
    clear hn
    go_wp2_with fail
    refine (pawake_any _).mono ?_
    rintro e v6 ⟨rfl, hn⟩
    replace hb0 := hb0.trans (hn.mono hb0.size)
    clear hn
    go_wp2
    go_ret
    exact ⟨by simp, hb0⟩

set_option maxRecDepth 100000 in
set_option maxHeartbeats 2000000 in
theorem POrders_n2 (ax ay b_y t u : Int) (h : Bool) (hz : ¬ay = b_y) (hh : ahd ax ay ax b_y = h) (ht : t = bif h then -1 else 1) (hu : u = bif h then 1 else -1) (hc1 : cmpP ax ay ax b_y = t) (hc2 : cmpP ax b_y ax ay = u) (w : World) : Calls Try.prog 7 #[pI ax ay, pI ax b_y] w fun e w' => e = .returned (.bool true) ∧ Below w.heap.size w w' := by
  obtain ⟨r, hr⟩ : ∃ r, rp ax ay = r := ⟨_, rfl⟩
  have HR := Lib.hid hr
  have C1 := Lib.hid hc1
  have C2 := Lib.hid hc2
  have HH := Lib.hid hh
  have HT := Lib.hid ht
  have HU := Lib.hid hu
  clear hr hc1 hc2 hh ht hu
  go_enter Try.func7, Try.ntmps7
  go_wp2_with fail
  refine name_world ?_
  intro W hW
  have ka : PVar W w.heap.size ax ay := by rw [hW]; exact (Blk.new w _ _).alloc _
  have kb : PVar W (w.heap.size + 1) ax b_y := by rw [hW]; exact Blk.new1 w _ _ _
  have hb0 : Below w.heap.size w W := by rw [hW]; exact below_a2 _ _ _
  clear hW
  have ca := PVar.c ka
  have cb := PVar.c kb
  have la := ka.lt
  have lb := kb.lt
  have KA := Lib.hid ka
  have KB := Lib.hid kb
  clear ka kb
  refine wp_region_up W.heap.size 3 [(true, 0), (true, 2), (false, 1)] (by kernel_rfl) (by kernel_rfl) (fun _ _ d _ _ h => by cases d <;> exact h) ?_
  have hb : Below W.heap.size W W.drew := (Below.refl _ _).drew
  iterate 2
    refine wpS_takeL rfl rfl ?_
    go_big_quiet_step (rfl)
    refine wpQuiet_nil ?_
  refine wpS_doL rfl ?_
  intro K hK
  go_wp2_with ((first | (go_at_call 39; (with_reducible refine (pref_any ax ay _).mono ?_); rintro e w2 ⟨rfl, hn⟩) | (go_at_call 39; (with_reducible refine (pref_any ax b_y _).mono ?_); rintro e w2 ⟨rfl, hn⟩)))
  replace hb := hb.trans (hn.mono hb.size)
  refine hK.out _ _ (up_iff.2 hb) ?_
  clear hK K
  clear hn
  refine wpS_nil ?_
  simp only [List.drop_succ_cons, List.drop_zero]
  have ka := KA.out.of hb
  have kb := KB.out.of hb
  replace hb0 := hb0.trans (hb.mono hb0.size)
  clear hb ca cb la lb KA KB
  go_wp2_with fail
  refine (pref_any ax b_y _).mono ?_
  rintro e u1 ⟨rfl, hn⟩
  replace ka : PVar u1 _ _ _ := ka.of hn
  replace kb : PVar u1 _ _ _ := kb.of hn
  replace hb0 := hb0.trans (hn.mono hb0.size)
  clear hn
  go_wp2_with fail
  refine (Ahead_is ax ay ax b_y h HH.out _).mono ?_
  rintro e u2 ⟨rfl, hn⟩
  replace ka : PVar u2 _ _ _ := ka.of hn
  replace kb : PVar u2 _ _ _ := kb.of hn
  replace hb0 := hb0.trans (hn.mono hb0.size)
  clear hn
  cases h
  · obtain rfl : t = 1 := HT.out
    obtain rfl : u = -1 := HU.out
    have ca := PVar.c ka
    have cb := PVar.c kb
    have la := ka.lt
    have lb := kb.lt
    clear ka kb
    go_wp2_with fail
    refine wp_region_up u2.heap.size 17 [(true, 0), (true, 1), (true, 3), (false, 2), (true, 4), (true, 5), (true, 6), (true, 7), (true, 9), (true, 10), (false, 8), (true, 11), (true, 12), (true, 13), (true, 14), (true, 16), (false, 15)] (by kernel_rfl) (by kernel_rfl) (fun _ _ d _ _ h => by cases d <;> exact h) ?_
    have hb : Below u2.heap.size u2 u2.drew := (Below.refl _ _).drew
    iterate 3
      refine wpS_takeL rfl rfl ?_
      go_big_quiet_step (rfl)
      refine wpQuiet_nil ?_
    refine wpS_doL rfl ?_
    intro K hK
    go_wp2_with ((first | (go_at_call 42; (with_reducible refine (PtCmp_is ax ay ax b_y 1 C1.out _).mono ?_); rintro e w2 ⟨rfl, hn⟩) | (go_at_call 42; (with_reducible refine (PtCmp_is ax b_y ax ay (-1) C2.out _).mono ?_); rintro e w2 ⟨rfl, hn⟩) | (go_at_call 43; (with_reducible refine (PtRight_is ax ay r HR.out _).mono ?_); rintro e w2 ⟨rfl, hn⟩)))
    replace hb := hb.trans (hn.mono hb.size)
    refine hK.out _ _ (up_iff.2 hb) ?_
    clear hK K
    clear hn
    iterate 6
      refine wpS_takeL rfl rfl ?_
      go_big_quiet_step (rfl)
      refine wpQuiet_nil ?_
    refine wpS_doL rfl ?_
    intro K hK
    go_wp2_with ((first | (go_at_call 42; (with_reducible refine (PtCmp_is ax ay ax b_y 1 C1.out _).mono ?_); rintro e w2 ⟨rfl, hn⟩) | (go_at_call 42; (with_reducible refine (PtCmp_is ax b_y ax ay (-1) C2.out _).mono ?_); rintro e w2 ⟨rfl, hn⟩) | (go_at_call 43; (with_reducible refine (PtRight_is ax ay r HR.out _).mono ?_); rintro e w2 ⟨rfl, hn⟩)))
    try replace hb := hb.trans (hn.mono hb.size)
    refine hK.out _ _ (up_iff.2 hb) ?_
    clear hK K
    try clear hn
    iterate 5
      refine wpS_takeL rfl rfl ?_
      go_big_quiet_step (rfl)
      refine wpQuiet_nil ?_
    refine wpS_doL rfl ?_
    intro K hK
    go_wp2_with ((first | (go_at_call 42; (with_reducible refine (PtCmp_is ax ay ax b_y 1 C1.out _).mono ?_); rintro e w2 ⟨rfl, hn⟩) | (go_at_call 42; (with_reducible refine (PtCmp_is ax b_y ax ay (-1) C2.out _).mono ?_); rintro e w2 ⟨rfl, hn⟩) | (go_at_call 43; (with_reducible refine (PtRight_is ax ay r HR.out _).mono ?_); rintro e w2 ⟨rfl, hn⟩)))
    try replace hb := hb.trans (hn.mono hb.size)
    refine hK.out _ _ (up_iff.2 hb) ?_
    clear hK K
    try clear hn
    refine wpS_nil ?_
    simp only [List.drop_succ_cons, List.drop_zero]
    replace hb0 := hb0.trans (hb.mono hb0.size)
    clear hb ca cb la lb
    go_wp2_with fail
    refine (pref_any ax ay _).mono ?_
    rintro e v4 ⟨rfl, hn⟩
    replace hb0 := hb0.trans (hn.mono hb0.size)
    clear hn
    go_wp2_with fail
    refine (rRight_is ax ay r HR.out _).mono ?_
    rintro e v5 ⟨rfl, hn⟩
    replace hb0 := hb0.trans (hn.mono hb0.size)
    clear hn
    go_wp2_with fail
    refine (pawake_any _).mono ?_
    rintro e v6 ⟨rfl, hn⟩
    replace hb0 := hb0.trans (hn.mono hb0.size)
    clear hn
    go_wp2
    go_ret
    exact ⟨by simp, hb0⟩
  · obtain rfl : t = -1 := HT.out
    obtain rfl : u = 1 := HU.out
    have ca := PVar.c ka
    have cb := PVar.c kb
    have la := ka.lt
    have lb := kb.lt
    clear ka kb
    go_wp2_with fail
    refine wp_region_up u2.heap.size 17 [(true, 0), (true, 1), (true, 3), (false, 2), (true, 4), (true, 5), (true, 6), (true, 7), (true, 9), (true, 10), (false, 8), (true, 11), (true, 12), (true, 13), (true, 14), (true, 16), (false, 15)] (by kernel_rfl) (by kernel_rfl) (fun _ _ d _ _ h => by cases d <;> exact h) ?_
    have hb : Below u2.heap.size u2 u2.drew := (Below.refl _ _).drew
    iterate 3
      refine wpS_takeL rfl rfl ?_
      go_big_quiet_step (rfl)
      refine wpQuiet_nil ?_
    refine wpS_doL rfl ?_
    intro K hK
    go_wp2_with ((first | (go_at_call 42; (with_reducible refine (PtCmp_is ax ay ax b_y (-1) C1.out _).mono ?_); rintro e w2 ⟨rfl, hn⟩) | (go_at_call 42; (with_reducible refine (PtCmp_is ax b_y ax ay 1 C2.out _).mono ?_); rintro e w2 ⟨rfl, hn⟩) | (go_at_call 43; (with_reducible refine (PtRight_is ax ay r HR.out _).mono ?_); rintro e w2 ⟨rfl, hn⟩)))
    replace hb := hb.trans (hn.mono hb.size)
    refine hK.out _ _ (up_iff.2 hb) ?_
    clear hK K
    clear hn
    iterate 6
      refine wpS_takeL rfl rfl ?_
      go_big_quiet_step (rfl)
      refine wpQuiet_nil ?_
    refine wpS_doL rfl ?_
    intro K hK
    go_wp2_with ((first | (go_at_call 42; (with_reducible refine (PtCmp_is ax ay ax b_y (-1) C1.out _).mono ?_); rintro e w2 ⟨rfl, hn⟩) | (go_at_call 42; (with_reducible refine (PtCmp_is ax b_y ax ay 1 C2.out _).mono ?_); rintro e w2 ⟨rfl, hn⟩) | (go_at_call 43; (with_reducible refine (PtRight_is ax ay r HR.out _).mono ?_); rintro e w2 ⟨rfl, hn⟩)))
    try replace hb := hb.trans (hn.mono hb.size)
    refine hK.out _ _ (up_iff.2 hb) ?_
    clear hK K
    try clear hn
    iterate 5
      refine wpS_takeL rfl rfl ?_
      go_big_quiet_step (rfl)
      refine wpQuiet_nil ?_
    refine wpS_doL rfl ?_
    intro K hK
    go_wp2_with ((first | (go_at_call 42; (with_reducible refine (PtCmp_is ax ay ax b_y (-1) C1.out _).mono ?_); rintro e w2 ⟨rfl, hn⟩) | (go_at_call 42; (with_reducible refine (PtCmp_is ax b_y ax ay 1 C2.out _).mono ?_); rintro e w2 ⟨rfl, hn⟩) | (go_at_call 43; (with_reducible refine (PtRight_is ax ay r HR.out _).mono ?_); rintro e w2 ⟨rfl, hn⟩)))
    try replace hb := hb.trans (hn.mono hb.size)
    refine hK.out _ _ (up_iff.2 hb) ?_
    clear hK K
    try clear hn
    refine wpS_nil ?_
    simp only [List.drop_succ_cons, List.drop_zero]
    replace hb0 := hb0.trans (hb.mono hb0.size)
    clear hb ca cb la lb
    go_wp2_with fail
    refine (pref_any ax ay _).mono ?_
    rintro e v4 ⟨rfl, hn⟩
    replace hb0 := hb0.trans (hn.mono hb0.size)
    clear hn
    go_wp2_with fail
    refine (rRight_is ax ay r HR.out _).mono ?_
    rintro e v5 ⟨rfl, hn⟩
    replace hb0 := hb0.trans (hn.mono hb0.size)
    clear hn
    go_wp2_with fail
    refine (pawake_any _).mono ?_
    rintro e v6 ⟨rfl, hn⟩
    replace hb0 := hb0.trans (hn.mono hb0.size)
    clear hn
    go_wp2
    go_ret
    exact ⟨by simp, hb0⟩

theorem POrders_any (ax ay bx b_y : Int) (w : World) : Calls Try.prog 7 #[pI ax ay, pI bx b_y] w fun e w' => e = .returned (.bool true) ∧ Below w.heap.size w w' := by
  by_cases hz : ax = bx ∧ ay = b_y
  · exact POrders_eq ax ay bx b_y hz.1 hz.2 w
  · cases hh : ahd ax ay bx b_y
    · have := cmpP_lt (ahd_false hh hz)
      by_cases hx : ax = bx
      · subst hx
        exact POrders_n2 ax ay b_y 1 (-1) false (fun h => hz ⟨rfl, h⟩) hh rfl rfl this.2 this.1 w
      · exact POrders_ne ax ay bx b_y 1 (-1) false hx hh rfl rfl this.2 this.1 w
    · have := cmpP_lt (ahd_true hh)
      by_cases hx : ax = bx
      · subst hx
        exact POrders_n2 ax ay b_y (-1) 1 true (fun h => hz ⟨rfl, h⟩) hh rfl rfl this.1 this.2 w
      · exact POrders_ne ax ay bx b_y (-1) 1 true hx hh rfl rfl this.1 this.2 w
end Go.Proofs.Ytgddpkopbiendaa
