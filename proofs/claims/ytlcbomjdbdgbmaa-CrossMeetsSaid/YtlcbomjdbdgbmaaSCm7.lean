/- The statement CrossMeetsSaid: for every input the law returns true, and its arguments read as before. Conditions: none. -/
import Derived.Test.YtlcbomjdbdgbmaaSCm6
import Derived.KernelRfl
import Derived.StillTail
import Derived.OrdersHeld
import Derived.Deep.Quiet
import Derived.Below
import Derived.WalkKit
import Derived.Test.YtlcbomjdbdgbmaaProg
import Derived.WalkSpells
import Derived.StillTactics
import Derived.Laws.Pointers
import Derived.Deep.RegionHeld3
import Derived.RowKit3
import Derived.Deep.QuietTactic
import Derived.BigQuiet
import Derived.BigRegion
import Derived.Lib.Hide
import Derived.WalkSmall
import Derived.Laws.BitsAllLaws
import Derived.IntWalk
import Derived.Deep.OwnRows
import Derived.Deep.LoopGhost
import Derived.Shelf.Bits.Mul64
import Derived.Test.YtlcbomjdbdgbmaaRows
import Derived.ProofKit
import Derived.OpenShut
import Derived.ShutString
import Derived.ChangeOld
import Derived.Lib.SmallJoins
import Derived.Laws.IdiomArrays
namespace Go.Proofs.Ytlcbomjdbdgbmaa
open Go.RowKit

/-- two spots that both segments hold are one -/
def OnlyH (ax ay bx b_y cx cy dx dy : Int) : Prop := ∀ X Y V X2 Y2 V2 : Int, rspR X Y V = true → rspR X2 Y2 V2 = true → hldB ax ay bx b_y X Y V = true → hldB cx cy dx dy X Y V = true → hldB ax ay bx b_y X2 Y2 V2 = true → hldB cx cy dx dy X2 Y2 V2 = true → rspC X Y V X2 Y2 V2 = 0
def MeetOk (ax ay bx b_y cx cy dx dy : Int) : Prop :=
  mtk ax ay bx b_y cx cy dx dy = rmt ax ay bx b_y cx cy dx dy ∧ (mtk ax ay bx b_y cx cy dx dy = 1 →
    rspR (mtx ax ay bx b_y cx cy dx dy) (mty ax ay bx b_y cx cy dx dy) (mtw ax ay bx b_y cx cy dx dy) = true ∧
    hldB ax ay bx b_y (mtx ax ay bx b_y cx cy dx dy) (mty ax ay bx b_y cx cy dx dy) (mtw ax ay bx b_y cx cy dx dy) = true ∧
    hldB cx cy dx dy (mtx ax ay bx b_y cx cy dx dy) (mty ax ay bx b_y cx cy dx dy) (mtw ax ay bx b_y cx cy dx dy) = true ∧ OnlyH ax ay bx b_y cx cy dx dy) ∧
  (mtk ax ay bx b_y cx cy dx dy ≠ 1 → mtx ax ay bx b_y cx cy dx dy = 0 ∧ mty ax ay bx b_y cx cy dx dy = 0 ∧ mtw ax ay bx b_y cx cy dx dy = 0)
theorem mt_zero {ax ay bx b_y cx cy dx dy : Int} (hl1 : ahd bx b_y ax ay = false) (hl2 : ahd dx dy cx cy = false) (h : mtk ax ay bx b_y cx cy dx dy ≠ 1) :
    mtx ax ay bx b_y cx cy dx dy = 0 ∧ mty ax ay bx b_y cx cy dx dy = 0 ∧ mtw ax ay bx b_y cx cy dx dy = 0 := by
  obtain ⟨s1, s2, s3, s4⟩ := sh_vals (ax := ax) (ay := ay) (cx := cx) (cy := cy) hl1 hl2
  unfold mtk at h
  unfold mtx mty mtw
  rw [s1] at h
  rw [s2, s3, s4]
  revert h
  generalize sgR ax ay bx b_y = p1
  generalize sgR cx cy dx dy = p2
  generalize dotB ax ay bx b_y = p3
  generalize dotB cx cy dx dy = p4
  generalize hldB cx cy dx dy (atx ax ay) (aty ax ay) (atw ax ay) = p5
  generalize hldB ax ay bx b_y (atx cx cy) (aty cx cy) (atw cx cy) = p6
  generalize (slp ax ay bx b_y cx cy dx dy == 0) = p7
  generalize (way ax ay bx b_y cx cy == 0) = p8
  generalize (cmpP (frx ax ay cx cy) (fry ax ay cx cy) (tox bx b_y dx dy) (toy bx b_y dx dy) == 0) = p9
  generalize spR (cgx ax ay bx b_y cx cy dx dy) (cgy ax ay bx b_y cx cy dx dy) (cgw ax ay bx b_y cx cy dx dy) = q1
  generalize hldB ax ay bx b_y (cgx ax ay bx b_y cx cy dx dy) (cgy ax ay bx b_y cx cy dx dy) (cgw ax ay bx b_y cx cy dx dy) = q2
  generalize hldB cx cy dx dy (cgx ax ay bx b_y cx cy dx dy) (cgy ax ay bx b_y cx cy dx dy) (cgw ax ay bx b_y cx cy dx dy) = q3
  intro h
  cases p1 <;> cases p2 <;> cases p3 <;> cases p4 <;> cases p5 <;> cases p6 <;> cases p7 <;> first | exact ⟨rfl, rfl, rfl⟩ | exact absurd rfl h | (cases p8 <;> cases p9 <;> first | exact ⟨rfl, rfl, rfl⟩ | exact absurd rfl h) | (cases q1 <;> cases q2 <;> cases q3 <;> first | exact ⟨rfl, rfl, rfl⟩ | exact absurd rfl h)
theorem ok_lex {ax ay bx b_y cx cy dx dy : Int} (h1 : sgR ax ay bx b_y = true) (h2 : sgR cx cy dx dy = true) (hl1 : ahd bx b_y ax ay = false) (hl2 : ahd dx dy cx cy = false) : MeetOk ax ay bx b_y cx cy dx dy := by
  obtain ⟨e, k⟩ := meet_lex h1 h2 hl1 hl2
  refine ⟨e, fun g => ?_, mt_zero hl1 hl2⟩
  obtain ⟨a, b, c, d⟩ := k g
  refine ⟨a, ?_, ?_, ?_⟩
  · rw [hld_eq h1 a, rhld_hd h1 hl1]; exact decide_eq_true b
  · rw [hld_eq h2 a, rhld_hd h2 hl2]; exact decide_eq_true c
  · intro X Y V X2 Y2 V2 r1 r2 k1 k2 k3 k4
    rw [hld_eq h1 r1, rhld_hd h1 hl1] at k1
    rw [hld_eq h2 r1, rhld_hd h2 hl2] at k2
    rw [hld_eq h1 r2, rhld_hd h1 hl1] at k3
    rw [hld_eq h2 r2, rhld_hd h2 hl2] at k4
    obtain ⟨u, v⟩ := d X Y V X2 Y2 V2 (sp_ok r1).v0 (sp_ok r2).v0 (of_decide_eq_true k1) (of_decide_eq_true k2) (of_decide_eq_true k3) (of_decide_eq_true k4)
    unfold rspC
    rw [u, v, cmpI_eq, cmpI_eq]; rfl
theorem ok_rev1 {ax ay bx b_y cx cy dx dy : Int} (h : MeetOk bx b_y ax ay cx cy dx dy) : MeetOk ax ay bx b_y cx cy dx dy := by
  obtain ⟨e1, e2, e3, e4⟩ := mt_rev1 ax ay bx b_y cx cy dx dy
  unfold MeetOk OnlyH at h ⊢
  rw [e1, e2, e3, e4, rmt_rev1] at h
  simpa only [hold_rev ax ay bx b_y] using h
theorem ok_rev2 {ax ay bx b_y cx cy dx dy : Int} (h : MeetOk ax ay bx b_y dx dy cx cy) : MeetOk ax ay bx b_y cx cy dx dy := by
  obtain ⟨e1, e2, e3, e4⟩ := mt_rev2 ax ay bx b_y cx cy dx dy
  unfold MeetOk OnlyH at h ⊢
  rw [e1, e2, e3, e4, rmt_rev2] at h
  simpa only [hold_rev cx cy dx dy] using h
theorem meet_ok {ax ay bx b_y cx cy dx dy : Int} (h1 : sgR ax ay bx b_y = true) (h2 : sgR cx cy dx dy = true) : MeetOk ax ay bx b_y cx cy dx dy := by
  have h1' : sgR bx b_y ax ay = true := (sg_rev ax ay bx b_y).trans h1
  have h2' : sgR dx dy cx cy = true := (sg_rev cx cy dx dy).trans h2
  cases g1 : ahd bx b_y ax ay
  · cases g2 : ahd dx dy cx cy
    · exact ok_lex h1 h2 g1 g2
    · exact ok_rev2 (ok_lex h1 h2' g1 (ahd_asym g2))
  · cases g2 : ahd dx dy cx cy
    · exact ok_rev1 (ok_lex h1' h2 (ahd_asym g1) g2)
    · exact ok_rev1 (ok_rev2 (ok_lex h1' h2' (ahd_asym g1) (ahd_asym g2)))
end Go.Proofs.Ytlcbomjdbdgbmaa

namespace Go.Proofs.Ytlcbomjdbdgbmaa
open Go.RowKit

def mck  : Int := 1

def mcx  : Int := 12

def mcy  : Int := 12

def mcw  : Int := 12

theorem mcx_in   : InI (mcx ) := by
  unfold mcx
  exact (by unfold InI b255; omega)

theorem mcy_in   : InI (mcy ) := by
  unfold mcy
  exact (by unfold InI b255; omega)

theorem mcw_in   : InI (mcw ) := by
  unfold mcw
  exact (by unfold InI b255; omega)

set_option maxRecDepth 100000 in
set_option maxHeartbeats 4000000 in

theorem Meetc_is   (R0 : Int) (R1 : Int) (R2 : Int) (R3 : Int) (hR0 : mck  = R0) (hR1 : mcx  = R1) (hR2 : mcy  = R2) (hR3 : mcw  = R3) (hP0 : sgR 0 0 3 3 = true) (hP1 : sgR 0 2 2 0 = true) (hP2 : dotB 0 0 3 3 = false) (hP3 : dotB 0 2 2 0 = false) (hP4 : slp 0 0 3 3 0 2 2 0 = 1) (hP5 : cgx 0 0 3 3 0 2 2 0 = 12) (hP6 : cgy 0 0 3 3 0 2 2 0 = 12) (hP7 : cgw 0 0 3 3 0 2 2 0 = 12) (hP8 : spR 12 12 12 = true) (hP9 : hldB 0 0 3 3 12 12 12 = true) (hP10 : hldB 0 2 2 0 12 12 12 = true)  (w : World)  :
    Calls Try.prog 49 #[.agg #[.int .i64 0, .int .i64 0, .int .i64 3, .int .i64 3], .agg #[.int .i64 0, .int .i64 2, .int .i64 2, .int .i64 0]] w fun e w' => e = .returned (.tuple #[.int .i64 R0, .agg #[.int .u64 (wd0 R1), .int .u64 (wd1 R1), .int .u64 (wd2 R1), .int .u64 (wd3 R1), .int .u64 (wd0 R2), .int .u64 (wd1 R2), .int .u64 (wd2 R2), .int .u64 (wd3 R2), .int .u64 (wd0 R3), .int .u64 (wd1 R3), .int .u64 (wd2 R3), .int .u64 (wd3 R3)]]) ∧ Below w.heap.size w w' := by

  have HP0 := Lib.hid hP0
  clear hP0
  have HP1 := Lib.hid hP1
  clear hP1
  have HP2 := Lib.hid hP2
  clear hP2
  have HP3 := Lib.hid hP3
  clear hP3
  have HP4 := Lib.hid hP4
  clear hP4
  have HP5 := Lib.hid hP5
  clear hP5
  have HP6 := Lib.hid hP6
  clear hP6
  have HP7 := Lib.hid hP7
  clear hP7
  have HP8 := Lib.hid hP8
  clear hP8
  have HP9 := Lib.hid hP9
  clear hP9
  have HP10 := Lib.hid hP10
  clear hP10
  have HR0 := Lib.hid hR0
  clear hR0
  have HR1 := Lib.hid hR1
  clear hR1
  have HR2 := Lib.hid hR2
  clear hR2
  have HR3 := Lib.hid hR3
  clear hR3
  go_enter Try.func49, Try.ntmps49
  go_wp2_with fail
  first | refine calls_w ?_ | refine name_world ?_ | refine list_world ?_ | refine post_world ?_
  intro V1 hV1
  have hn : Below w.heap.size w V1 := by rw [hV1]; exact below_a3 _ _ _ _
  have nhb0 := hn
  have k1 : Blk V1 w.heap.size #[.int .i64 0, .int .i64 0, .int .i64 3, .int .i64 3] 50 := by rw [hV1]; exact (((Blk.new _ _ _).alloc _).alloc _)
  have k2 : Blk V1 (w.heap.size + 1) #[.int .i64 0, .int .i64 2, .int .i64 2, .int .i64 0] 50 := by rw [hV1]; exact ((Blk.new1 _ _ _ _).alloc _)
  have k3 : Blk V1 (w.heap.size + 1 + 1) #[.int .u64 0, .int .u64 0, .int .u64 0, .int .u64 0, .int .u64 0, .int .u64 0, .int .u64 0, .int .u64 0, .int .u64 0, .int .u64 0, .int .u64 0, .int .u64 0] 67 := by rw [hV1]; exact (Blk.new2 _ _ _ _ _)
  clear hV1
  have hb0 := nhb0
  clear nhb0
  refine (SegRight_is 0 0 3 3 true HP0.out (by unfold In64; omega) (by unfold In64; omega) (by unfold In64; omega) (by unfold In64; omega)  _).mono ?_
  rintro e U2 ⟨rfl, hn⟩
  replace k1 := k1.of hn
  replace k2 := k2.of hn
  replace k3 := k3.of hn
  replace hb0 := hb0.trans (hn.mono hb0.size)
  clear hn
  have c2_0 : U2.cell? ⟨(w.heap.size + 1), 0, none⟩ = some (.int .i64 0) := k2.cell 0
  have c2_1 : U2.cell? ⟨(w.heap.size + 1), 1, none⟩ = some (.int .i64 2) := k2.cell 1
  have c2_2 : U2.cell? ⟨(w.heap.size + 1), 2, none⟩ = some (.int .i64 2) := k2.cell 2
  have c2_3 : U2.cell? ⟨(w.heap.size + 1), 3, none⟩ = some (.int .i64 0) := k2.cell 3
  have l2 := k2.lt
  go_wp2_with fail
  clear c2_0 c2_1 c2_2 c2_3 l2
  refine (SegRight_is 0 2 2 0 true HP1.out (by unfold In64; omega) (by unfold In64; omega) (by unfold In64; omega) (by unfold In64; omega)  _).mono ?_
  rintro e U3 ⟨rfl, hn⟩
  replace k1 := k1.of hn
  replace k2 := k2.of hn
  replace k3 := k3.of hn
  replace hb0 := hb0.trans (hn.mono hb0.size)
  clear hn
  go_wp2_with fail
  have c1_0 : U3.cell? ⟨w.heap.size, 0, none⟩ = some (.int .i64 0) := k1.cell 0
  have c1_1 : U3.cell? ⟨w.heap.size, 1, none⟩ = some (.int .i64 0) := k1.cell 1
  have c1_2 : U3.cell? ⟨w.heap.size, 2, none⟩ = some (.int .i64 3) := k1.cell 2
  have c1_3 : U3.cell? ⟨w.heap.size, 3, none⟩ = some (.int .i64 3) := k1.cell 3
  have l1 := k1.lt
  have Kk1 := Lib.hid k1
  clear k1
  have Kk2 := Lib.hid k2
  clear k2
  have Kk3 := Lib.hid k3
  clear k3
  refine wp_region_up U3.heap.size 7 [(true, 0), (false, 1), (true, 2), (true, 3), (true, 4), (true, 5), (false, 6)] (by kernel_rfl) (by kernel_rfl) (fun _ _ d _ _ h => by cases d <;> exact h) ?_
  have hb : Below U3.heap.size U3 U3.drew := (Below.refl _ _).drew
  refine wpS_takeL rfl rfl ?_
  go_big_quiet_step (rfl)
  refine wpQuiet_nil ?_
  refine wpS_doL rfl ?_
  intro K hK
  go_wp2_with ((go_at_call 101; (with_reducible refine (dot_is 0 0 3 3 false HP2.out (by unfold In64; omega) (by unfold In64; omega) (by unfold In64; omega) (by unfold In64; omega)  _).mono ?_); rintro e w2 ⟨rfl, hn⟩))
  replace hb := hb.trans (hn.mono hb.size)
  refine hK.out _ _ (up_iff.2 hb) ?_
  clear hK K
  clear hn
  iterate 4
    refine wpS_takeL rfl rfl ?_
    go_big_quiet_step (rfl)
    refine wpQuiet_nil ?_
  refine wpS_doL rfl ?_
  intro K hK
  go_wp2_with ((go_at_call 101; (with_reducible refine (dot_is 0 0 3 3 false HP2.out (by unfold In64; omega) (by unfold In64; omega) (by unfold In64; omega) (by unfold In64; omega)  _).mono ?_); rintro e w2 ⟨rfl, hn⟩))
  try replace hb := hb.trans (hn.mono hb.size)
  refine hK.out _ _ (up_iff.2 hb) ?_
  clear hK K
  try clear hn
  refine wpS_nil ?_
  simp only [List.drop_succ_cons, List.drop_zero]
  first | refine calls_w ?_ | refine name_world ?_ | refine list_world ?_ | refine post_world ?_
  intro U4 hU4
  first | subst hU4 | (rw [← hU4] at hb; clear hU4)
  clear c1_0 c1_1 c1_2 c1_3 l1
  have k1 := Kk1.out.of hb
  clear Kk1
  have k2 := Kk2.out.of hb
  clear Kk2
  have k3 := Kk3.out.of hb
  clear Kk3
  replace hb0 := hb0.trans (hb.mono hb0.size)
  clear hb
  go_wp2_with fail
  have c2_0 : U4.cell? ⟨(w.heap.size + 1), 0, none⟩ = some (.int .i64 0) := k2.cell 0
  have c2_1 : U4.cell? ⟨(w.heap.size + 1), 1, none⟩ = some (.int .i64 2) := k2.cell 1
  have c2_2 : U4.cell? ⟨(w.heap.size + 1), 2, none⟩ = some (.int .i64 2) := k2.cell 2
  have c2_3 : U4.cell? ⟨(w.heap.size + 1), 3, none⟩ = some (.int .i64 0) := k2.cell 3
  have l2 := k2.lt
  have Kk1 := Lib.hid k1
  clear k1
  have Kk2 := Lib.hid k2
  clear k2
  have Kk3 := Lib.hid k3
  clear k3
  refine wp_region_up U4.heap.size 7 [(true, 0), (false, 1), (true, 2), (true, 3), (true, 4), (true, 5), (false, 6)] (by kernel_rfl) (by kernel_rfl) (fun _ _ d _ _ h => by cases d <;> exact h) ?_
  have hb : Below U4.heap.size U4 U4.drew := (Below.refl _ _).drew
  refine wpS_takeL rfl rfl ?_
  go_big_quiet_step (rfl)
  refine wpQuiet_nil ?_
  refine wpS_doL rfl ?_
  intro K hK
  go_wp2_with ((go_at_call 101; (with_reducible refine (dot_is 0 2 2 0 false HP3.out (by unfold In64; omega) (by unfold In64; omega) (by unfold In64; omega) (by unfold In64; omega)  _).mono ?_); rintro e w2 ⟨rfl, hn⟩))
  replace hb := hb.trans (hn.mono hb.size)
  refine hK.out _ _ (up_iff.2 hb) ?_
  clear hK K
  clear hn
  iterate 4
    refine wpS_takeL rfl rfl ?_
    go_big_quiet_step (rfl)
    refine wpQuiet_nil ?_
  refine wpS_doL rfl ?_
  intro K hK
  go_wp2_with ((go_at_call 101; (with_reducible refine (dot_is 0 2 2 0 false HP3.out (by unfold In64; omega) (by unfold In64; omega) (by unfold In64; omega) (by unfold In64; omega)  _).mono ?_); rintro e w2 ⟨rfl, hn⟩))
  try replace hb := hb.trans (hn.mono hb.size)
  refine hK.out _ _ (up_iff.2 hb) ?_
  clear hK K
  try clear hn
  refine wpS_nil ?_
  simp only [List.drop_succ_cons, List.drop_zero]
  first | refine calls_w ?_ | refine name_world ?_ | refine list_world ?_ | refine post_world ?_
  intro U5 hU5
  first | subst hU5 | (rw [← hU5] at hb; clear hU5)
  clear c2_0 c2_1 c2_2 c2_3 l2
  have k1 := Kk1.out.of hb
  clear Kk1
  have k2 := Kk2.out.of hb
  clear Kk2
  have k3 := Kk3.out.of hb
  clear Kk3
  replace hb0 := hb0.trans (hb.mono hb0.size)
  clear hb
  have c1_0 : U5.cell? ⟨w.heap.size, 0, none⟩ = some (.int .i64 0) := k1.cell 0
  have c1_1 : U5.cell? ⟨w.heap.size, 1, none⟩ = some (.int .i64 0) := k1.cell 1
  have c1_2 : U5.cell? ⟨w.heap.size, 2, none⟩ = some (.int .i64 3) := k1.cell 2
  have c1_3 : U5.cell? ⟨w.heap.size, 3, none⟩ = some (.int .i64 3) := k1.cell 3
  have l1 := k1.lt
  go_wp2_with fail
  clear c1_0 c1_1 c1_2 c1_3 l1
  refine (dot_is 0 0 3 3 false HP2.out (by unfold In64; omega) (by unfold In64; omega) (by unfold In64; omega) (by unfold In64; omega)  _).mono ?_
  rintro e U6 ⟨rfl, hn⟩
  replace k1 := k1.of hn
  replace k2 := k2.of hn
  replace k3 := k3.of hn
  replace hb0 := hb0.trans (hn.mono hb0.size)
  clear hn
  have c2_0 : U6.cell? ⟨(w.heap.size + 1), 0, none⟩ = some (.int .i64 0) := k2.cell 0
  have c2_1 : U6.cell? ⟨(w.heap.size + 1), 1, none⟩ = some (.int .i64 2) := k2.cell 1
  have c2_2 : U6.cell? ⟨(w.heap.size + 1), 2, none⟩ = some (.int .i64 2) := k2.cell 2
  have c2_3 : U6.cell? ⟨(w.heap.size + 1), 3, none⟩ = some (.int .i64 0) := k2.cell 3
  have l2 := k2.lt
  go_wp2_with fail
  clear c2_0 c2_1 c2_2 c2_3 l2
  refine (dot_is 0 2 2 0 false HP3.out (by unfold In64; omega) (by unfold In64; omega) (by unfold In64; omega) (by unfold In64; omega)  _).mono ?_
  rintro e U7 ⟨rfl, hn⟩
  replace k1 := k1.of hn
  replace k2 := k2.of hn
  replace k3 := k3.of hn
  replace hb0 := hb0.trans (hn.mono hb0.size)
  clear hn
  have c1_0 : U7.cell? ⟨w.heap.size, 0, none⟩ = some (.int .i64 0) := k1.cell 0
  have c1_1 : U7.cell? ⟨w.heap.size, 1, none⟩ = some (.int .i64 0) := k1.cell 1
  have c1_2 : U7.cell? ⟨w.heap.size, 2, none⟩ = some (.int .i64 3) := k1.cell 2
  have c1_3 : U7.cell? ⟨w.heap.size, 3, none⟩ = some (.int .i64 3) := k1.cell 3
  have l1 := k1.lt
  have c2_0 : U7.cell? ⟨(w.heap.size + 1), 0, none⟩ = some (.int .i64 0) := k2.cell 0
  have c2_1 : U7.cell? ⟨(w.heap.size + 1), 1, none⟩ = some (.int .i64 2) := k2.cell 1
  have c2_2 : U7.cell? ⟨(w.heap.size + 1), 2, none⟩ = some (.int .i64 2) := k2.cell 2
  have c2_3 : U7.cell? ⟨(w.heap.size + 1), 3, none⟩ = some (.int .i64 0) := k2.cell 3
  have l2 := k2.lt
  go_wp2_with fail
  clear c1_0 c1_1 c1_2 c1_3 l1 c2_0 c2_1 c2_2 c2_3 l2
  refine (Slope_is 0 0 3 3 0 2 2 0 1 HP4.out (by unfold In64; omega) (by unfold In64; omega) (by unfold In64; omega) (by unfold In64; omega) (by unfold In64; omega) (by unfold In64; omega) (by unfold In64; omega) (by unfold In64; omega)  _).mono ?_
  rintro e U8 ⟨rfl, hn⟩
  replace k1 := k1.of hn
  replace k2 := k2.of hn
  replace k3 := k3.of hn
  replace hb0 := hb0.trans (hn.mono hb0.size)
  clear hn
  have c1_0 : U8.cell? ⟨w.heap.size, 0, none⟩ = some (.int .i64 0) := k1.cell 0
  have c1_1 : U8.cell? ⟨w.heap.size, 1, none⟩ = some (.int .i64 0) := k1.cell 1
  have c1_2 : U8.cell? ⟨w.heap.size, 2, none⟩ = some (.int .i64 3) := k1.cell 2
  have c1_3 : U8.cell? ⟨w.heap.size, 3, none⟩ = some (.int .i64 3) := k1.cell 3
  have l1 := k1.lt
  have c2_0 : U8.cell? ⟨(w.heap.size + 1), 0, none⟩ = some (.int .i64 0) := k2.cell 0
  have c2_1 : U8.cell? ⟨(w.heap.size + 1), 1, none⟩ = some (.int .i64 2) := k2.cell 1
  have c2_2 : U8.cell? ⟨(w.heap.size + 1), 2, none⟩ = some (.int .i64 2) := k2.cell 2
  have c2_3 : U8.cell? ⟨(w.heap.size + 1), 3, none⟩ = some (.int .i64 0) := k2.cell 3
  have l2 := k2.lt
  go_wp2_with fail
  clear c1_0 c1_1 c1_2 c1_3 l1 c2_0 c2_1 c2_2 c2_3 l2
  refine (Slope_is 0 0 3 3 0 2 2 0 1 HP4.out (by unfold In64; omega) (by unfold In64; omega) (by unfold In64; omega) (by unfold In64; omega) (by unfold In64; omega) (by unfold In64; omega) (by unfold In64; omega) (by unfold In64; omega)  _).mono ?_
  rintro e U9 ⟨rfl, hn⟩
  replace k1 := k1.of hn
  replace k2 := k2.of hn
  replace k3 := k3.of hn
  replace hb0 := hb0.trans (hn.mono hb0.size)
  clear hn
  have c1_0 : U9.cell? ⟨w.heap.size, 0, none⟩ = some (.int .i64 0) := k1.cell 0
  have c1_1 : U9.cell? ⟨w.heap.size, 1, none⟩ = some (.int .i64 0) := k1.cell 1
  have c1_2 : U9.cell? ⟨w.heap.size, 2, none⟩ = some (.int .i64 3) := k1.cell 2
  have c1_3 : U9.cell? ⟨w.heap.size, 3, none⟩ = some (.int .i64 3) := k1.cell 3
  have l1 := k1.lt
  have c2_0 : U9.cell? ⟨(w.heap.size + 1), 0, none⟩ = some (.int .i64 0) := k2.cell 0
  have c2_1 : U9.cell? ⟨(w.heap.size + 1), 1, none⟩ = some (.int .i64 2) := k2.cell 1
  have c2_2 : U9.cell? ⟨(w.heap.size + 1), 2, none⟩ = some (.int .i64 2) := k2.cell 2
  have c2_3 : U9.cell? ⟨(w.heap.size + 1), 3, none⟩ = some (.int .i64 0) := k2.cell 3
  have l2 := k2.lt
  go_wp2_with fail
  clear c1_0 c1_1 c1_2 c1_3 l1 c2_0 c2_1 c2_2 c2_3 l2
  refine (crossing_is 0 0 3 3 0 2 2 0 12 12 12 HP5.out HP6.out HP7.out (by unfold In64; omega) (by unfold In64; omega) (by unfold In64; omega) (by unfold In64; omega) (by unfold In64; omega) (by unfold In64; omega) (by unfold In64; omega) (by unfold In64; omega)  _).mono ?_
  rintro e U10 ⟨rfl, hn⟩
  replace k1 := k1.of hn
  replace k2 := k2.of hn
  replace k3 := k3.of hn
  replace hb0 := hb0.trans (hn.mono hb0.size)
  clear hn
  go_wp2_with fail
  first | refine calls_w ?_ | refine name_world ?_ | refine list_world ?_ | refine post_world ?_
  intro V11 hV11
  have D1 := Lib.hid k1.lt
  have D2 := Lib.hid k2.lt
  have D3 := Lib.hid k3.lt
  have D4 := Lib.hid hb0.size
  have hn : Below U10.heap.size U10 V11 := by rw [hV11]; exact below_a1 _ _
  have nk1 := k1.of hn
  have nk2 := k2.of hn
  have nk3 := k3.of hn
  have nhb0 := hb0.trans (hn.mono hb0.size)
  clear hn
  have k4 : Blk V11 U10.heap.size #[.int .u64 (wd0 12), .int .u64 (wd1 12), .int .u64 (wd2 12), .int .u64 (wd3 12), .int .u64 (wd0 12), .int .u64 (wd1 12), .int .u64 (wd2 12), .int .u64 (wd3 12), .int .u64 (wd0 12), .int .u64 (wd1 12), .int .u64 (wd2 12), .int .u64 (wd3 12)] 67 := by rw [hV11]; exact (Blk.new _ _ _)
  clear k1 k2 k3
  clear hb0
  clear hV11
  have k1 := nk1
  clear nk1
  have k2 := nk2
  clear nk2
  have k3 := nk3
  clear nk3
  have hb0 := nhb0
  clear nhb0
  refine (SpRight_is 12 12 12 true HP8.out (by unfold InI b255; omega) (by unfold InI b255; omega) (by unfold InI b255; omega)  _).mono ?_
  rintro e U12 ⟨rfl, hn⟩
  replace k1 := k1.of hn
  replace k2 := k2.of hn
  replace k3 := k3.of hn
  replace k4 := k4.of hn
  replace hb0 := hb0.trans (hn.mono hb0.size)
  clear hn
  have c1_0 : U12.cell? ⟨w.heap.size, 0, none⟩ = some (.int .i64 0) := k1.cell 0
  have c1_1 : U12.cell? ⟨w.heap.size, 1, none⟩ = some (.int .i64 0) := k1.cell 1
  have c1_2 : U12.cell? ⟨w.heap.size, 2, none⟩ = some (.int .i64 3) := k1.cell 2
  have c1_3 : U12.cell? ⟨w.heap.size, 3, none⟩ = some (.int .i64 3) := k1.cell 3
  have l1 := k1.lt
  have c4_0 : U12.cell? ⟨U10.heap.size, 0, none⟩ = some (.int .u64 (wd0 12)) := k4.cell 0
  have c4_1 : U12.cell? ⟨U10.heap.size, 1, none⟩ = some (.int .u64 (wd1 12)) := k4.cell 1
  have c4_2 : U12.cell? ⟨U10.heap.size, 2, none⟩ = some (.int .u64 (wd2 12)) := k4.cell 2
  have c4_3 : U12.cell? ⟨U10.heap.size, 3, none⟩ = some (.int .u64 (wd3 12)) := k4.cell 3
  have c4_4 : U12.cell? ⟨U10.heap.size, 4, none⟩ = some (.int .u64 (wd0 12)) := k4.cell 4
  have c4_5 : U12.cell? ⟨U10.heap.size, 5, none⟩ = some (.int .u64 (wd1 12)) := k4.cell 5
  have c4_6 : U12.cell? ⟨U10.heap.size, 6, none⟩ = some (.int .u64 (wd2 12)) := k4.cell 6
  have c4_7 : U12.cell? ⟨U10.heap.size, 7, none⟩ = some (.int .u64 (wd3 12)) := k4.cell 7
  have c4_8 : U12.cell? ⟨U10.heap.size, 8, none⟩ = some (.int .u64 (wd0 12)) := k4.cell 8
  have c4_9 : U12.cell? ⟨U10.heap.size, 9, none⟩ = some (.int .u64 (wd1 12)) := k4.cell 9
  have c4_10 : U12.cell? ⟨U10.heap.size, 10, none⟩ = some (.int .u64 (wd2 12)) := k4.cell 10
  have c4_11 : U12.cell? ⟨U10.heap.size, 11, none⟩ = some (.int .u64 (wd3 12)) := k4.cell 11
  have l4 := k4.lt
  go_wp2_with fail
  clear c1_0 c1_1 c1_2 c1_3 l1 c4_0 c4_1 c4_2 c4_3 c4_4 c4_5 c4_6 c4_7 c4_8 c4_9 c4_10 c4_11 l4
  refine (SegHolds_is 0 0 3 3 12 12 12 true HP9.out (by unfold In64; omega) (by unfold In64; omega) (by unfold In64; omega) (by unfold In64; omega) (by unfold InI b255; omega) (by unfold InI b255; omega) (by unfold InI b255; omega)  _).mono ?_
  rintro e U13 ⟨rfl, hn⟩
  clear k1
  replace k2 := k2.of hn
  replace k3 := k3.of hn
  replace k4 := k4.of hn
  replace hb0 := hb0.trans (hn.mono hb0.size)
  clear hn
  have c2_0 : U13.cell? ⟨(w.heap.size + 1), 0, none⟩ = some (.int .i64 0) := k2.cell 0
  have c2_1 : U13.cell? ⟨(w.heap.size + 1), 1, none⟩ = some (.int .i64 2) := k2.cell 1
  have c2_2 : U13.cell? ⟨(w.heap.size + 1), 2, none⟩ = some (.int .i64 2) := k2.cell 2
  have c2_3 : U13.cell? ⟨(w.heap.size + 1), 3, none⟩ = some (.int .i64 0) := k2.cell 3
  have l2 := k2.lt
  have c4_0 : U13.cell? ⟨U10.heap.size, 0, none⟩ = some (.int .u64 (wd0 12)) := k4.cell 0
  have c4_1 : U13.cell? ⟨U10.heap.size, 1, none⟩ = some (.int .u64 (wd1 12)) := k4.cell 1
  have c4_2 : U13.cell? ⟨U10.heap.size, 2, none⟩ = some (.int .u64 (wd2 12)) := k4.cell 2
  have c4_3 : U13.cell? ⟨U10.heap.size, 3, none⟩ = some (.int .u64 (wd3 12)) := k4.cell 3
  have c4_4 : U13.cell? ⟨U10.heap.size, 4, none⟩ = some (.int .u64 (wd0 12)) := k4.cell 4
  have c4_5 : U13.cell? ⟨U10.heap.size, 5, none⟩ = some (.int .u64 (wd1 12)) := k4.cell 5
  have c4_6 : U13.cell? ⟨U10.heap.size, 6, none⟩ = some (.int .u64 (wd2 12)) := k4.cell 6
  have c4_7 : U13.cell? ⟨U10.heap.size, 7, none⟩ = some (.int .u64 (wd3 12)) := k4.cell 7
  have c4_8 : U13.cell? ⟨U10.heap.size, 8, none⟩ = some (.int .u64 (wd0 12)) := k4.cell 8
  have c4_9 : U13.cell? ⟨U10.heap.size, 9, none⟩ = some (.int .u64 (wd1 12)) := k4.cell 9
  have c4_10 : U13.cell? ⟨U10.heap.size, 10, none⟩ = some (.int .u64 (wd2 12)) := k4.cell 10
  have c4_11 : U13.cell? ⟨U10.heap.size, 11, none⟩ = some (.int .u64 (wd3 12)) := k4.cell 11
  have l4 := k4.lt
  go_wp2_with fail
  clear c2_0 c2_1 c2_2 c2_3 l2 c4_0 c4_1 c4_2 c4_3 c4_4 c4_5 c4_6 c4_7 c4_8 c4_9 c4_10 c4_11 l4
  refine (SegHolds_is 0 2 2 0 12 12 12 true HP10.out (by unfold In64; omega) (by unfold In64; omega) (by unfold In64; omega) (by unfold In64; omega) (by unfold InI b255; omega) (by unfold InI b255; omega) (by unfold InI b255; omega)  _).mono ?_
  rintro e U14 ⟨rfl, hn⟩
  clear k2
  replace k3 := k3.of hn
  replace k4 := k4.of hn
  replace hb0 := hb0.trans (hn.mono hb0.size)
  clear hn
  go_wp2_with fail
  have c3_0 : U14.cell? ⟨(w.heap.size + 1 + 1), 0, none⟩ = some (.int .u64 0) := k3.cell 0
  have c3_1 : U14.cell? ⟨(w.heap.size + 1 + 1), 1, none⟩ = some (.int .u64 0) := k3.cell 1
  have c3_2 : U14.cell? ⟨(w.heap.size + 1 + 1), 2, none⟩ = some (.int .u64 0) := k3.cell 2
  have c3_3 : U14.cell? ⟨(w.heap.size + 1 + 1), 3, none⟩ = some (.int .u64 0) := k3.cell 3
  have c3_4 : U14.cell? ⟨(w.heap.size + 1 + 1), 4, none⟩ = some (.int .u64 0) := k3.cell 4
  have c3_5 : U14.cell? ⟨(w.heap.size + 1 + 1), 5, none⟩ = some (.int .u64 0) := k3.cell 5
  have c3_6 : U14.cell? ⟨(w.heap.size + 1 + 1), 6, none⟩ = some (.int .u64 0) := k3.cell 6
  have c3_7 : U14.cell? ⟨(w.heap.size + 1 + 1), 7, none⟩ = some (.int .u64 0) := k3.cell 7
  have c3_8 : U14.cell? ⟨(w.heap.size + 1 + 1), 8, none⟩ = some (.int .u64 0) := k3.cell 8
  have c3_9 : U14.cell? ⟨(w.heap.size + 1 + 1), 9, none⟩ = some (.int .u64 0) := k3.cell 9
  have c3_10 : U14.cell? ⟨(w.heap.size + 1 + 1), 10, none⟩ = some (.int .u64 0) := k3.cell 10
  have c3_11 : U14.cell? ⟨(w.heap.size + 1 + 1), 11, none⟩ = some (.int .u64 0) := k3.cell 11
  have f3_0 := k3.free 0
  have f3_1 := k3.free 1
  have f3_2 := k3.free 2
  have f3_3 := k3.free 3
  have f3_4 := k3.free 4
  have f3_5 := k3.free 5
  have f3_6 := k3.free 6
  have f3_7 := k3.free 7
  have f3_8 := k3.free 8
  have f3_9 := k3.free 9
  have f3_10 := k3.free 10
  have f3_11 := k3.free 11
  have l3 := k3.lt
  have c4_0 : U14.cell? ⟨U10.heap.size, 0, none⟩ = some (.int .u64 (wd0 12)) := k4.cell 0
  have c4_1 : U14.cell? ⟨U10.heap.size, 1, none⟩ = some (.int .u64 (wd1 12)) := k4.cell 1
  have c4_2 : U14.cell? ⟨U10.heap.size, 2, none⟩ = some (.int .u64 (wd2 12)) := k4.cell 2
  have c4_3 : U14.cell? ⟨U10.heap.size, 3, none⟩ = some (.int .u64 (wd3 12)) := k4.cell 3
  have c4_4 : U14.cell? ⟨U10.heap.size, 4, none⟩ = some (.int .u64 (wd0 12)) := k4.cell 4
  have c4_5 : U14.cell? ⟨U10.heap.size, 5, none⟩ = some (.int .u64 (wd1 12)) := k4.cell 5
  have c4_6 : U14.cell? ⟨U10.heap.size, 6, none⟩ = some (.int .u64 (wd2 12)) := k4.cell 6
  have c4_7 : U14.cell? ⟨U10.heap.size, 7, none⟩ = some (.int .u64 (wd3 12)) := k4.cell 7
  have c4_8 : U14.cell? ⟨U10.heap.size, 8, none⟩ = some (.int .u64 (wd0 12)) := k4.cell 8
  have c4_9 : U14.cell? ⟨U10.heap.size, 9, none⟩ = some (.int .u64 (wd1 12)) := k4.cell 9
  have c4_10 : U14.cell? ⟨U10.heap.size, 10, none⟩ = some (.int .u64 (wd2 12)) := k4.cell 10
  have c4_11 : U14.cell? ⟨U10.heap.size, 11, none⟩ = some (.int .u64 (wd3 12)) := k4.cell 11
  have l4 := k4.lt
  have p4_3 : U10.heap.size ≠ (w.heap.size + 1 + 1) := (by have := D3.out; omega)
  have Kk3 := Lib.hid k3
  clear k3
  have Kk4 := Lib.hid k4
  clear k4
  go_region
  first | refine name_q ?_ | refine calls_w ?_ | refine name_world ?_ | refine list_world ?_ | refine post_world ?_
  intro U15 hU15
  clear c3_0 c3_1 c3_2 c3_3 c3_4 c3_5 c3_6 c3_7 c3_8 c3_9 c3_10 c3_11 f3_0 f3_1 f3_2 f3_3 f3_4 f3_5 f3_6 f3_7 f3_8 f3_9 f3_10 f3_11 l3 c4_0 c4_1 c4_2 c4_3 c4_4 c4_5 c4_6 c4_7 c4_8 c4_9 c4_10 c4_11 l4 p4_3
  have k3 : Blk U15 (w.heap.size + 1 + 1) #[.int .u64 (wd0 12), .int .u64 (wd1 12), .int .u64 (wd2 12), .int .u64 (wd3 12), .int .u64 (wd0 12), .int .u64 (wd1 12), .int .u64 (wd2 12), .int .u64 (wd3 12), .int .u64 (wd0 12), .int .u64 (wd1 12), .int .u64 (wd2 12), .int .u64 (wd3 12)] 67 := by rw [hU15]; exact Blk.drew (blk_full _ [.int .u64 (wd0 12), .int .u64 (wd1 12), .int .u64 (wd2 12), .int .u64 (wd3 12), .int .u64 (wd0 12), .int .u64 (wd1 12), .int .u64 (wd2 12), .int .u64 (wd3 12), .int .u64 (wd0 12), .int .u64 (wd1 12), .int .u64 (wd2 12), .int .u64 (wd3 12)] Kk3.out rfl)
  clear Kk3
  have k4 : Blk U15 U10.heap.size #[.int .u64 (wd0 12), .int .u64 (wd1 12), .int .u64 (wd2 12), .int .u64 (wd3 12), .int .u64 (wd0 12), .int .u64 (wd1 12), .int .u64 (wd2 12), .int .u64 (wd3 12), .int .u64 (wd0 12), .int .u64 (wd1 12), .int .u64 (wd2 12), .int .u64 (wd3 12)] 67 := by rw [hU15]; exact Blk.drew (blk_setL Kk4.out (by have := D3.out; omega) 0 [.int .u64 (wd0 12), .int .u64 (wd1 12), .int .u64 (wd2 12), .int .u64 (wd3 12), .int .u64 (wd0 12), .int .u64 (wd1 12), .int .u64 (wd2 12), .int .u64 (wd3 12), .int .u64 (wd0 12), .int .u64 (wd1 12), .int .u64 (wd2 12), .int .u64 (wd3 12)])
  clear Kk4
  replace hb0 : Below w.heap.size w U15 := by rw [hU15]; exact Below.drew (blw_setL hb0 (by omega) 0 [.int .u64 (wd0 12), .int .u64 (wd1 12), .int .u64 (wd2 12), .int .u64 (wd3 12), .int .u64 (wd0 12), .int .u64 (wd1 12), .int .u64 (wd2 12), .int .u64 (wd3 12), .int .u64 (wd0 12), .int .u64 (wd1 12), .int .u64 (wd2 12), .int .u64 (wd3 12)])
  clear hU15
  have e0 : 1 = R0 := by rw [← HR0.out]; unfold mck; (try rw [HP0.out]); (try rw [HP1.out]); (try rw [HP2.out]); (try rw [HP3.out]); (try rw [HP4.out]); (try rw [HP5.out]); (try rw [HP6.out]); (try rw [HP7.out]); (try rw [HP8.out]); (try rw [HP9.out]); (try rw [HP10.out]); all_goals first | rfl | simp
  have e1 : 12 = R1 := by rw [← HR1.out]; unfold mcx; (try rw [HP0.out]); (try rw [HP1.out]); (try rw [HP2.out]); (try rw [HP3.out]); (try rw [HP4.out]); (try rw [HP5.out]); (try rw [HP6.out]); (try rw [HP7.out]); (try rw [HP8.out]); (try rw [HP9.out]); (try rw [HP10.out]); all_goals first | rfl | simp
  have e2 : 12 = R2 := by rw [← HR2.out]; unfold mcy; (try rw [HP0.out]); (try rw [HP1.out]); (try rw [HP2.out]); (try rw [HP3.out]); (try rw [HP4.out]); (try rw [HP5.out]); (try rw [HP6.out]); (try rw [HP7.out]); (try rw [HP8.out]); (try rw [HP9.out]); (try rw [HP10.out]); all_goals first | rfl | simp
  have e3 : 12 = R3 := by rw [← HR3.out]; unfold mcw; (try rw [HP0.out]); (try rw [HP1.out]); (try rw [HP2.out]); (try rw [HP3.out]); (try rw [HP4.out]); (try rw [HP5.out]); (try rw [HP6.out]); (try rw [HP7.out]); (try rw [HP8.out]); (try rw [HP9.out]); (try rw [HP10.out]); all_goals first | rfl | simp
  subst e0
  subst e1
  subst e2
  subst e3
  go_wp2
  have g3_0 : U15.cell? ⟨(w.heap.size + 1 + 1), 0, none⟩ = some (.int .u64 (wd0 12)) := k3.cell 0
  have g3_1 : U15.cell? ⟨(w.heap.size + 1 + 1), 1, none⟩ = some (.int .u64 (wd1 12)) := k3.cell 1
  have g3_2 : U15.cell? ⟨(w.heap.size + 1 + 1), 2, none⟩ = some (.int .u64 (wd2 12)) := k3.cell 2
  have g3_3 : U15.cell? ⟨(w.heap.size + 1 + 1), 3, none⟩ = some (.int .u64 (wd3 12)) := k3.cell 3
  have g3_4 : U15.cell? ⟨(w.heap.size + 1 + 1), 4, none⟩ = some (.int .u64 (wd0 12)) := k3.cell 4
  have g3_5 : U15.cell? ⟨(w.heap.size + 1 + 1), 5, none⟩ = some (.int .u64 (wd1 12)) := k3.cell 5
  have g3_6 : U15.cell? ⟨(w.heap.size + 1 + 1), 6, none⟩ = some (.int .u64 (wd2 12)) := k3.cell 6
  have g3_7 : U15.cell? ⟨(w.heap.size + 1 + 1), 7, none⟩ = some (.int .u64 (wd3 12)) := k3.cell 7
  have g3_8 : U15.cell? ⟨(w.heap.size + 1 + 1), 8, none⟩ = some (.int .u64 (wd0 12)) := k3.cell 8
  have g3_9 : U15.cell? ⟨(w.heap.size + 1 + 1), 9, none⟩ = some (.int .u64 (wd1 12)) := k3.cell 9
  have g3_10 : U15.cell? ⟨(w.heap.size + 1 + 1), 10, none⟩ = some (.int .u64 (wd2 12)) := k3.cell 10
  have g3_11 : U15.cell? ⟨(w.heap.size + 1 + 1), 11, none⟩ = some (.int .u64 (wd3 12)) := k3.cell 11
  clear k3 k4
  simp [bodyPost, results, Try.results49, go_sem, g3_0, g3_1, g3_2, g3_3, g3_4, g3_5, g3_6, g3_7, g3_8, g3_9, g3_10, g3_11]
  first | exact hb0 | exact ⟨rfl, hb0⟩

def cawk  : Bool := (bif ((mck ) == 1) then (bif (whk (mcx ) (mcy ) (mcw )) then (bif ((whx (mcx ) (mcy ) (mcw )) == 1) then (bif ((why (mcx ) (mcy ) (mcw )) == 1) then (bif ((spC (mcx ) (mcy ) (mcw ) (atx 1 1) (aty 1 1) (atw 1 1)) == 0) then (bif (hldB 0 0 1 1 (atx 1 1) (aty 1 1) (atw 1 1)) then (!(hldB 0 0 1 1 (atx 2 2) (aty 2 2) (atw 2 2))) else false) else false) else false) else false) else false) else false)

set_option maxRecDepth 100000 in
set_option maxHeartbeats 4000000 in

theorem cawake_is   (R0 : Bool) (hR0 : cawk  = R0)   (w : World)  :
    Calls Try.prog 54 #[] w fun e w' => e = .returned (.bool R0) ∧ Below w.heap.size w w' := by

  have HR0 := Lib.hid hR0
  clear hR0
  go_enter Try.func54, Try.ntmps54
  go_wp2_with fail
  obtain ⟨r1, hr1⟩ : ∃ o_o : Int, mck  = o_o := ⟨_, rfl⟩
  have Hr1 := Lib.hid hr1
  clear hr1
  obtain ⟨r2, hr2⟩ : ∃ o_o : Int, mcx  = o_o := ⟨_, rfl⟩
  have Hr2 := Lib.hid hr2
  clear hr2
  obtain ⟨r3, hr3⟩ : ∃ o_o : Int, mcy  = o_o := ⟨_, rfl⟩
  have Hr3 := Lib.hid hr3
  clear hr3
  obtain ⟨r4, hr4⟩ : ∃ o_o : Int, mcw  = o_o := ⟨_, rfl⟩
  have Hr4 := Lib.hid hr4
  clear hr4
  refine (Meetc_is  r1 r2 r3 r4 Hr1.out Hr2.out Hr3.out Hr4.out (by kernel_rfl) (by kernel_rfl) (by kernel_rfl) (by kernel_rfl) (by kernel_rfl) (by kernel_rfl) (by kernel_rfl) (by kernel_rfl) (by kernel_rfl) (by kernel_rfl) (by kernel_rfl)   _).mono ?_
  rintro e U1 ⟨rfl, hn⟩
  have hb0 := hn
  clear hn
  go_wp2_with fail
  first | refine calls_w ?_ | refine name_world ?_ | refine list_world ?_ | refine post_world ?_
  intro V2 hV2
  have D1 := Lib.hid hb0.size
  have hn : Below U1.heap.size U1 V2 := by rw [hV2]; exact below_a1 _ _
  have nhb0 := hb0.trans (hn.mono hb0.size)
  clear hn
  have k1 : Blk V2 U1.heap.size #[.int .u64 (wd0 r2), .int .u64 (wd1 r2), .int .u64 (wd2 r2), .int .u64 (wd3 r2), .int .u64 (wd0 r3), .int .u64 (wd1 r3), .int .u64 (wd2 r3), .int .u64 (wd3 r3), .int .u64 (wd0 r4), .int .u64 (wd1 r4), .int .u64 (wd2 r4), .int .u64 (wd3 r4)] 67 := by rw [hV2]; exact (Blk.new _ _ _)
  clear hb0
  clear hV2
  have hb0 := nhb0
  clear nhb0
  obtain ⟨r5, hr5⟩ : ∃ o_o : Int, whx r2 r3 r4 = o_o := ⟨_, rfl⟩
  have Hr5 := Lib.hid hr5
  clear hr5
  obtain ⟨r6, hr6⟩ : ∃ o_o : Int, why r2 r3 r4 = o_o := ⟨_, rfl⟩
  have Hr6 := Lib.hid hr6
  clear hr6
  obtain ⟨z7, hz7⟩ : ∃ o_o : Bool, whk r2 r3 r4 = o_o := ⟨_, rfl⟩
  have Hz7 := Lib.hid hz7
  clear hz7
  refine (Whole_is r2 r3 r4 r5 r6 z7 Hr5.out Hr6.out Hz7.out (Hr2.out ▸ mcx_in  ) (Hr3.out ▸ mcy_in  ) (Hr4.out ▸ mcw_in  )  _).mono ?_
  rintro e U3 ⟨rfl, hn⟩
  replace k1 := k1.of hn
  replace hb0 := hb0.trans (hn.mono hb0.size)
  clear hn
  go_wp2_with fail
  first | refine calls_w ?_ | refine name_world ?_ | refine list_world ?_ | refine post_world ?_
  intro V4 hV4
  have D2 := Lib.hid k1.lt
  have D3 := Lib.hid hb0.size
  have hn : Below U3.heap.size U3 V4 := by rw [hV4]; exact below_a1 _ _
  have nk1 := k1.of hn
  have nhb0 := hb0.trans (hn.mono hb0.size)
  clear hn
  have k2 : Blk V4 U3.heap.size #[.int .i64 r5, .int .i64 r6] 24 := by rw [hV4]; exact (Blk.new _ _ _)
  clear k1
  clear hb0
  clear hV4
  have k1 := nk1
  clear nk1
  have hb0 := nhb0
  clear nhb0
  obtain ⟨z8, hz8⟩ : ∃ o_o : Bool, (r1 == 1) = o_o := ⟨_, rfl⟩
  cases z8
  · have nz8 : ¬ r1 = 1 := by simpa using hz8
    have Kk1 := Lib.hid k1
    clear k1
    have Kk2 := Lib.hid k2
    clear k2
    refine wp_region_up V4.heap.size 29 [(true, 0), (true, 1), (true, 2), (true, 3), (true, 4), (true, 5), (true, 6), (true, 7), (true, 8), (true, 9), (true, 10), (true, 11), (true, 12), (false, 13), (false, 14), (true, 15), (true, 16), (true, 17), (true, 18), (true, 19), (true, 20), (false, 21), (false, 22), (true, 23), (true, 24), (true, 25), (true, 26), (true, 27), (false, 28)] (by kernel_rfl) (by kernel_rfl) (fun _ _ d _ _ h => by cases d <;> exact h) ?_
    have hb : Below V4.heap.size V4 V4.drew := (Below.refl _ _).drew
    iterate 13
      refine wpS_takeL rfl rfl ?_
      go_big_quiet_step (rfl)
      refine wpQuiet_nil ?_
    refine wpS_doL rfl ?_
    intro K hK
    go_wp2_with (fail)
    try replace hb := hb.trans (hn.mono hb.size)
    refine hK.out _ _ (up_iff.2 hb) ?_
    clear hK K
    try clear hn
    refine wpS_doL rfl ?_
    intro K hK
    go_wp2_with (fail)
    try replace hb := hb.trans (hn.mono hb.size)
    refine hK.out _ _ (up_iff.2 hb) ?_
    clear hK K
    try clear hn
    iterate 6
      refine wpS_takeL rfl rfl ?_
      go_big_quiet_step (rfl)
      refine wpQuiet_nil ?_
    refine wpS_doL rfl ?_
    intro K hK
    go_wp2_with (fail)
    try replace hb := hb.trans (hn.mono hb.size)
    refine hK.out _ _ (up_iff.2 hb) ?_
    clear hK K
    try clear hn
    refine wpS_doL rfl ?_
    intro K hK
    go_wp2_with (fail)
    try replace hb := hb.trans (hn.mono hb.size)
    refine hK.out _ _ (up_iff.2 hb) ?_
    clear hK K
    try clear hn
    iterate 5
      refine wpS_takeL rfl rfl ?_
      go_big_quiet_step (rfl)
      refine wpQuiet_nil ?_
    refine wpS_doL rfl ?_
    intro K hK
    go_wp2_with (fail)
    try replace hb := hb.trans (hn.mono hb.size)
    refine hK.out _ _ (up_iff.2 hb) ?_
    clear hK K
    try clear hn
    refine wpS_nil ?_
    simp only [List.drop_succ_cons, List.drop_zero]
    first | refine calls_w ?_ | refine name_world ?_ | refine list_world ?_ | refine post_world ?_
    intro U5 hU5
    first | subst hU5 | (rw [← hU5] at hb; clear hU5)
    have k1 := Kk1.out.of hb
    clear Kk1
    have k2 := Kk2.out.of hb
    clear Kk2
    replace hb0 := hb0.trans (hb.mono hb0.size)
    clear hb
    have e0 : false = R0 := by rw [← HR0.out]; unfold cawk; (try rw [Hr1.out]); (try rw [Hr2.out]); (try rw [Hr3.out]); (try rw [Hr4.out]); (try rw [Hr5.out]); (try rw [Hr6.out]); (try rw [Hz7.out]); (try rw [hz8]); all_goals first | rfl | simp
    subst e0
    go_wp2
    first | go_ret | go_ret2
    exact ⟨by first | rfl | simp, hb0⟩
  · obtain rfl : r1 = 1 := by simpa using hz8
    clear hz8
    cases z7
    · have Kk1 := Lib.hid k1
      clear k1
      have Kk2 := Lib.hid k2
      clear k2
      refine wp_region_up V4.heap.size 29 [(true, 0), (true, 1), (true, 2), (true, 3), (true, 4), (true, 5), (true, 6), (true, 7), (true, 8), (true, 9), (true, 10), (true, 11), (true, 12), (false, 13), (false, 14), (true, 15), (true, 16), (true, 17), (true, 18), (true, 19), (true, 20), (false, 21), (false, 22), (true, 23), (true, 24), (true, 25), (true, 26), (true, 27), (false, 28)] (by kernel_rfl) (by kernel_rfl) (fun _ _ d _ _ h => by cases d <;> exact h) ?_
      have hb : Below V4.heap.size V4 V4.drew := (Below.refl _ _).drew
      iterate 13
        refine wpS_takeL rfl rfl ?_
        go_big_quiet_step (rfl)
        refine wpQuiet_nil ?_
      refine wpS_doL rfl ?_
      intro K hK
      go_wp2_with (fail)
      try replace hb := hb.trans (hn.mono hb.size)
      refine hK.out _ _ (up_iff.2 hb) ?_
      clear hK K
      try clear hn
      refine wpS_doL rfl ?_
      intro K hK
      go_wp2_with (fail)
      try replace hb := hb.trans (hn.mono hb.size)
      refine hK.out _ _ (up_iff.2 hb) ?_
      clear hK K
      try clear hn
      iterate 6
        refine wpS_takeL rfl rfl ?_
        go_big_quiet_step (rfl)
        refine wpQuiet_nil ?_
      refine wpS_doL rfl ?_
      intro K hK
      go_wp2_with (fail)
      try replace hb := hb.trans (hn.mono hb.size)
      refine hK.out _ _ (up_iff.2 hb) ?_
      clear hK K
      try clear hn
      refine wpS_doL rfl ?_
      intro K hK
      go_wp2_with (fail)
      try replace hb := hb.trans (hn.mono hb.size)
      refine hK.out _ _ (up_iff.2 hb) ?_
      clear hK K
      try clear hn
      iterate 5
        refine wpS_takeL rfl rfl ?_
        go_big_quiet_step (rfl)
        refine wpQuiet_nil ?_
      refine wpS_doL rfl ?_
      intro K hK
      go_wp2_with (fail)
      try replace hb := hb.trans (hn.mono hb.size)
      refine hK.out _ _ (up_iff.2 hb) ?_
      clear hK K
      try clear hn
      refine wpS_nil ?_
      simp only [List.drop_succ_cons, List.drop_zero]
      first | refine calls_w ?_ | refine name_world ?_ | refine list_world ?_ | refine post_world ?_
      intro U6 hU6
      first | subst hU6 | (rw [← hU6] at hb; clear hU6)
      have k1 := Kk1.out.of hb
      clear Kk1
      have k2 := Kk2.out.of hb
      clear Kk2
      replace hb0 := hb0.trans (hb.mono hb0.size)
      clear hb
      have e0 : false = R0 := by rw [← HR0.out]; unfold cawk; (try rw [Hr1.out]); (try rw [Hr2.out]); (try rw [Hr3.out]); (try rw [Hr4.out]); (try rw [Hr5.out]); (try rw [Hr6.out]); (try rw [Hz7.out]); all_goals first | rfl | simp
      subst e0
      go_wp2
      first | go_ret | go_ret2
      exact ⟨by first | rfl | simp, hb0⟩
    · obtain ⟨z9, hz9⟩ : ∃ o_o : Bool, (r5 == 1) = o_o := ⟨_, rfl⟩
      cases z9
      · have nz9 : ¬ r5 = 1 := by simpa using hz9
        have c2_0 : V4.cell? ⟨U3.heap.size, 0, none⟩ = some (.int .i64 r5) := k2.cell 0
        have c2_1 : V4.cell? ⟨U3.heap.size, 1, none⟩ = some (.int .i64 r6) := k2.cell 1
        have l2 := k2.lt
        have Kk1 := Lib.hid k1
        clear k1
        have Kk2 := Lib.hid k2
        clear k2
        refine wp_region_up V4.heap.size 29 [(true, 0), (true, 1), (true, 2), (true, 3), (true, 4), (true, 5), (true, 6), (true, 7), (true, 8), (true, 9), (true, 10), (true, 11), (true, 12), (false, 13), (false, 14), (true, 15), (true, 16), (true, 17), (true, 18), (true, 19), (true, 20), (false, 21), (false, 22), (true, 23), (true, 24), (true, 25), (true, 26), (true, 27), (false, 28)] (by kernel_rfl) (by kernel_rfl) (fun _ _ d _ _ h => by cases d <;> exact h) ?_
        have hb : Below V4.heap.size V4 V4.drew := (Below.refl _ _).drew
        iterate 13
          refine wpS_takeL rfl rfl ?_
          go_big_quiet_step (rfl)
          refine wpQuiet_nil ?_
        refine wpS_doL rfl ?_
        intro K hK
        go_wp2_with (fail)
        try replace hb := hb.trans (hn.mono hb.size)
        refine hK.out _ _ (up_iff.2 hb) ?_
        clear hK K
        try clear hn
        refine wpS_doL rfl ?_
        intro K hK
        go_wp2_with (fail)
        try replace hb := hb.trans (hn.mono hb.size)
        refine hK.out _ _ (up_iff.2 hb) ?_
        clear hK K
        try clear hn
        iterate 6
          refine wpS_takeL rfl rfl ?_
          go_big_quiet_step (rfl)
          refine wpQuiet_nil ?_
        refine wpS_doL rfl ?_
        intro K hK
        go_wp2_with (fail)
        try replace hb := hb.trans (hn.mono hb.size)
        refine hK.out _ _ (up_iff.2 hb) ?_
        clear hK K
        try clear hn
        refine wpS_doL rfl ?_
        intro K hK
        go_wp2_with (fail)
        try replace hb := hb.trans (hn.mono hb.size)
        refine hK.out _ _ (up_iff.2 hb) ?_
        clear hK K
        try clear hn
        iterate 5
          refine wpS_takeL rfl rfl ?_
          go_big_quiet_step (rfl)
          refine wpQuiet_nil ?_
        refine wpS_doL rfl ?_
        intro K hK
        go_wp2_with (fail)
        try replace hb := hb.trans (hn.mono hb.size)
        refine hK.out _ _ (up_iff.2 hb) ?_
        clear hK K
        try clear hn
        refine wpS_nil ?_
        simp only [List.drop_succ_cons, List.drop_zero]
        first | refine calls_w ?_ | refine name_world ?_ | refine list_world ?_ | refine post_world ?_
        intro U7 hU7
        first | subst hU7 | (rw [← hU7] at hb; clear hU7)
        clear c2_0 c2_1 l2
        have k1 := Kk1.out.of hb
        clear Kk1
        have k2 := Kk2.out.of hb
        clear Kk2
        replace hb0 := hb0.trans (hb.mono hb0.size)
        clear hb
        have e0 : false = R0 := by rw [← HR0.out]; unfold cawk; (try rw [Hr1.out]); (try rw [Hr2.out]); (try rw [Hr3.out]); (try rw [Hr4.out]); (try rw [Hr5.out]); (try rw [Hr6.out]); (try rw [Hz7.out]); (try rw [hz9]); all_goals first | rfl | simp
        subst e0
        go_wp2
        first | go_ret | go_ret2
        exact ⟨by first | rfl | simp, hb0⟩
      · obtain rfl : r5 = 1 := by simpa using hz9
        clear hz9
        obtain ⟨z10, hz10⟩ : ∃ o_o : Bool, (r6 == 1) = o_o := ⟨_, rfl⟩
        cases z10
        · have nz10 : ¬ r6 = 1 := by simpa using hz10
          have c2_0 : V4.cell? ⟨U3.heap.size, 0, none⟩ = some (.int .i64 1) := k2.cell 0
          have c2_1 : V4.cell? ⟨U3.heap.size, 1, none⟩ = some (.int .i64 r6) := k2.cell 1
          have l2 := k2.lt
          have Kk1 := Lib.hid k1
          clear k1
          have Kk2 := Lib.hid k2
          clear k2
          refine wp_region_up V4.heap.size 29 [(true, 0), (true, 1), (true, 2), (true, 3), (true, 4), (true, 5), (true, 6), (true, 7), (true, 8), (true, 9), (true, 10), (true, 11), (true, 12), (false, 13), (false, 14), (true, 15), (true, 16), (true, 17), (true, 18), (true, 19), (true, 20), (false, 21), (false, 22), (true, 23), (true, 24), (true, 25), (true, 26), (true, 27), (false, 28)] (by kernel_rfl) (by kernel_rfl) (fun _ _ d _ _ h => by cases d <;> exact h) ?_
          have hb : Below V4.heap.size V4 V4.drew := (Below.refl _ _).drew
          iterate 13
            refine wpS_takeL rfl rfl ?_
            go_big_quiet_step (rfl)
            refine wpQuiet_nil ?_
          refine wpS_doL rfl ?_
          intro K hK
          go_wp2_with (fail)
          try replace hb := hb.trans (hn.mono hb.size)
          refine hK.out _ _ (up_iff.2 hb) ?_
          clear hK K
          try clear hn
          refine wpS_doL rfl ?_
          intro K hK
          go_wp2_with (fail)
          try replace hb := hb.trans (hn.mono hb.size)
          refine hK.out _ _ (up_iff.2 hb) ?_
          clear hK K
          try clear hn
          iterate 6
            refine wpS_takeL rfl rfl ?_
            go_big_quiet_step (rfl)
            refine wpQuiet_nil ?_
          refine wpS_doL rfl ?_
          intro K hK
          go_wp2_with (fail)
          try replace hb := hb.trans (hn.mono hb.size)
          refine hK.out _ _ (up_iff.2 hb) ?_
          clear hK K
          try clear hn
          refine wpS_doL rfl ?_
          intro K hK
          go_wp2_with (fail)
          try replace hb := hb.trans (hn.mono hb.size)
          refine hK.out _ _ (up_iff.2 hb) ?_
          clear hK K
          try clear hn
          iterate 5
            refine wpS_takeL rfl rfl ?_
            go_big_quiet_step (rfl)
            refine wpQuiet_nil ?_
          refine wpS_doL rfl ?_
          intro K hK
          go_wp2_with (fail)
          try replace hb := hb.trans (hn.mono hb.size)
          refine hK.out _ _ (up_iff.2 hb) ?_
          clear hK K
          try clear hn
          refine wpS_nil ?_
          simp only [List.drop_succ_cons, List.drop_zero]
          first | refine calls_w ?_ | refine name_world ?_ | refine list_world ?_ | refine post_world ?_
          intro U8 hU8
          first | subst hU8 | (rw [← hU8] at hb; clear hU8)
          clear c2_0 c2_1 l2
          have k1 := Kk1.out.of hb
          clear Kk1
          have k2 := Kk2.out.of hb
          clear Kk2
          replace hb0 := hb0.trans (hb.mono hb0.size)
          clear hb
          have e0 : false = R0 := by rw [← HR0.out]; unfold cawk; (try rw [Hr1.out]); (try rw [Hr2.out]); (try rw [Hr3.out]); (try rw [Hr4.out]); (try rw [Hr5.out]); (try rw [Hr6.out]); (try rw [Hz7.out]); (try rw [hz10]); all_goals first | rfl | simp
          subst e0
          go_wp2
          first | go_ret | go_ret2
          exact ⟨by first | rfl | simp, hb0⟩
        · obtain rfl : r6 = 1 := by simpa using hz10
          clear hz10
          obtain ⟨r11, hr11⟩ : ∃ o_o : Int, atx 1 1 = o_o := ⟨_, rfl⟩
          have Hr11 := Lib.hid hr11
          clear hr11
          obtain ⟨r12, hr12⟩ : ∃ o_o : Int, aty 1 1 = o_o := ⟨_, rfl⟩
          have Hr12 := Lib.hid hr12
          clear hr12
          obtain ⟨r13, hr13⟩ : ∃ o_o : Int, atw 1 1 = o_o := ⟨_, rfl⟩
          have Hr13 := Lib.hid hr13
          clear hr13
          obtain ⟨r14, hr14⟩ : ∃ o_o : Int, spC r2 r3 r4 r11 r12 r13 = o_o := ⟨_, rfl⟩
          have Hr14 := Lib.hid hr14
          clear hr14
          obtain ⟨z15, hz15⟩ : ∃ o_o : Bool, (r14 == 0) = o_o := ⟨_, rfl⟩
          cases z15
          · have nz15 : ¬ r14 = 0 := by simpa using hz15
            have c1_0 : V4.cell? ⟨U1.heap.size, 0, none⟩ = some (.int .u64 (wd0 r2)) := k1.cell 0
            have c1_1 : V4.cell? ⟨U1.heap.size, 1, none⟩ = some (.int .u64 (wd1 r2)) := k1.cell 1
            have c1_2 : V4.cell? ⟨U1.heap.size, 2, none⟩ = some (.int .u64 (wd2 r2)) := k1.cell 2
            have c1_3 : V4.cell? ⟨U1.heap.size, 3, none⟩ = some (.int .u64 (wd3 r2)) := k1.cell 3
            have c1_4 : V4.cell? ⟨U1.heap.size, 4, none⟩ = some (.int .u64 (wd0 r3)) := k1.cell 4
            have c1_5 : V4.cell? ⟨U1.heap.size, 5, none⟩ = some (.int .u64 (wd1 r3)) := k1.cell 5
            have c1_6 : V4.cell? ⟨U1.heap.size, 6, none⟩ = some (.int .u64 (wd2 r3)) := k1.cell 6
            have c1_7 : V4.cell? ⟨U1.heap.size, 7, none⟩ = some (.int .u64 (wd3 r3)) := k1.cell 7
            have c1_8 : V4.cell? ⟨U1.heap.size, 8, none⟩ = some (.int .u64 (wd0 r4)) := k1.cell 8
            have c1_9 : V4.cell? ⟨U1.heap.size, 9, none⟩ = some (.int .u64 (wd1 r4)) := k1.cell 9
            have c1_10 : V4.cell? ⟨U1.heap.size, 10, none⟩ = some (.int .u64 (wd2 r4)) := k1.cell 10
            have c1_11 : V4.cell? ⟨U1.heap.size, 11, none⟩ = some (.int .u64 (wd3 r4)) := k1.cell 11
            have l1 := k1.lt
            have c2_0 : V4.cell? ⟨U3.heap.size, 0, none⟩ = some (.int .i64 1) := k2.cell 0
            have c2_1 : V4.cell? ⟨U3.heap.size, 1, none⟩ = some (.int .i64 1) := k2.cell 1
            have l2 := k2.lt
            have Kk1 := Lib.hid k1
            clear k1
            have Kk2 := Lib.hid k2
            clear k2
            refine wp_region_up V4.heap.size 29 [(true, 0), (true, 1), (true, 2), (true, 3), (true, 4), (true, 5), (true, 6), (true, 7), (true, 8), (true, 9), (true, 10), (true, 11), (true, 12), (false, 13), (false, 14), (true, 15), (true, 16), (true, 17), (true, 18), (true, 19), (true, 20), (false, 21), (false, 22), (true, 23), (true, 24), (true, 25), (true, 26), (true, 27), (false, 28)] (by kernel_rfl) (by kernel_rfl) (fun _ _ d _ _ h => by cases d <;> exact h) ?_
            have hb : Below V4.heap.size V4 V4.drew := (Below.refl _ _).drew
            iterate 13
              refine wpS_takeL rfl rfl ?_
              go_big_quiet_step (rfl)
              refine wpQuiet_nil ?_
            refine wpS_doL rfl ?_
            intro K hK
            go_wp2_with ((go_at_call 47; (with_reducible refine (crAt_is 1 1 r11 r12 r13 Hr11.out Hr12.out Hr13.out (by unfold In64; omega) (by unfold In64; omega)  _).mono ?_); rintro e w2 ⟨rfl, hn⟩))
            try replace hb := hb.trans (hn.mono hb.size)
            refine hK.out _ _ (up_iff.2 hb) ?_
            clear hK K
            try clear hn
            refine wpS_doL rfl ?_
            intro K hK
            go_wp2_with ((go_at_call 58; (with_reducible refine (SpCmp_is r2 r3 r4 r11 r12 r13 r14 Hr14.out (Hr2.out ▸ mcx_in  ) (Hr3.out ▸ mcy_in  ) (Hr4.out ▸ mcw_in  ) (Hr11.out ▸ atx_in 1 1 (by unfold In64; omega) (by unfold In64; omega)) (Hr12.out ▸ aty_in 1 1 (by unfold In64; omega) (by unfold In64; omega)) (Hr13.out ▸ atw_in 1 1 (by unfold In64; omega) (by unfold In64; omega))  _).mono ?_); rintro e w2 ⟨rfl, hn⟩))
            try replace hb := hb.trans (hn.mono hb.size)
            refine hK.out _ _ (up_iff.2 hb) ?_
            clear hK K
            try clear hn
            iterate 6
              refine wpS_takeL rfl rfl ?_
              go_big_quiet_step (rfl)
              refine wpQuiet_nil ?_
            refine wpS_doL rfl ?_
            intro K hK
            go_wp2_with ((go_at_call 47; (with_reducible refine (crAt_is 1 1 r11 r12 r13 Hr11.out Hr12.out Hr13.out (by unfold In64; omega) (by unfold In64; omega)  _).mono ?_); rintro e w2 ⟨rfl, hn⟩))
            try replace hb := hb.trans (hn.mono hb.size)
            refine hK.out _ _ (up_iff.2 hb) ?_
            clear hK K
            try clear hn
            refine wpS_doL rfl ?_
            intro K hK
            go_wp2_with ((first | (go_at_call 47; (with_reducible refine (crAt_is 1 1 r11 r12 r13 Hr11.out Hr12.out Hr13.out (by unfold In64; omega) (by unfold In64; omega)  _).mono ?_); rintro e w2 ⟨rfl, hn⟩) | (go_at_call 58; (with_reducible refine (SpCmp_is r2 r3 r4 r11 r12 r13 r14 Hr14.out (Hr2.out ▸ mcx_in  ) (Hr3.out ▸ mcy_in  ) (Hr4.out ▸ mcw_in  ) (Hr11.out ▸ atx_in 1 1 (by unfold In64; omega) (by unfold In64; omega)) (Hr12.out ▸ aty_in 1 1 (by unfold In64; omega) (by unfold In64; omega)) (Hr13.out ▸ atw_in 1 1 (by unfold In64; omega) (by unfold In64; omega))  _).mono ?_); rintro e w2 ⟨rfl, hn⟩)))
            try replace hb := hb.trans (hn.mono hb.size)
            refine hK.out _ _ (up_iff.2 hb) ?_
            clear hK K
            try clear hn
            iterate 5
              refine wpS_takeL rfl rfl ?_
              go_big_quiet_step (rfl)
              refine wpQuiet_nil ?_
            refine wpS_doL rfl ?_
            intro K hK
            go_wp2_with ((go_at_call 47; (with_reducible refine (crAt_is 1 1 r11 r12 r13 Hr11.out Hr12.out Hr13.out (by unfold In64; omega) (by unfold In64; omega)  _).mono ?_); rintro e w2 ⟨rfl, hn⟩))
            try replace hb := hb.trans (hn.mono hb.size)
            refine hK.out _ _ (up_iff.2 hb) ?_
            clear hK K
            try clear hn
            refine wpS_nil ?_
            simp only [List.drop_succ_cons, List.drop_zero]
            first | refine calls_w ?_ | refine name_world ?_ | refine list_world ?_ | refine post_world ?_
            intro U9 hU9
            first | subst hU9 | (rw [← hU9] at hb; clear hU9)
            clear c1_0 c1_1 c1_2 c1_3 c1_4 c1_5 c1_6 c1_7 c1_8 c1_9 c1_10 c1_11 l1 c2_0 c2_1 l2
            have k1 := Kk1.out.of hb
            clear Kk1
            have k2 := Kk2.out.of hb
            clear Kk2
            replace hb0 := hb0.trans (hb.mono hb0.size)
            clear hb
            have e0 : false = R0 := by rw [← HR0.out]; unfold cawk; (try rw [Hr1.out]); (try rw [Hr2.out]); (try rw [Hr3.out]); (try rw [Hr4.out]); (try rw [Hr5.out]); (try rw [Hr6.out]); (try rw [Hz7.out]); (try rw [Hr11.out]); (try rw [Hr12.out]); (try rw [Hr13.out]); (try rw [Hr14.out]); (try rw [hz15]); all_goals first | rfl | simp
            subst e0
            go_wp2
            first | go_ret | go_ret2
            exact ⟨by first | rfl | simp, hb0⟩
          · obtain rfl : r14 = 0 := by simpa using hz15
            clear hz15
            obtain ⟨z16, hz16⟩ : ∃ o_o : Bool, hldB 0 0 1 1 r11 r12 r13 = o_o := ⟨_, rfl⟩
            have Hz16 := Lib.hid hz16
            clear hz16
            cases z16
            · have c1_0 : V4.cell? ⟨U1.heap.size, 0, none⟩ = some (.int .u64 (wd0 r2)) := k1.cell 0
              have c1_1 : V4.cell? ⟨U1.heap.size, 1, none⟩ = some (.int .u64 (wd1 r2)) := k1.cell 1
              have c1_2 : V4.cell? ⟨U1.heap.size, 2, none⟩ = some (.int .u64 (wd2 r2)) := k1.cell 2
              have c1_3 : V4.cell? ⟨U1.heap.size, 3, none⟩ = some (.int .u64 (wd3 r2)) := k1.cell 3
              have c1_4 : V4.cell? ⟨U1.heap.size, 4, none⟩ = some (.int .u64 (wd0 r3)) := k1.cell 4
              have c1_5 : V4.cell? ⟨U1.heap.size, 5, none⟩ = some (.int .u64 (wd1 r3)) := k1.cell 5
              have c1_6 : V4.cell? ⟨U1.heap.size, 6, none⟩ = some (.int .u64 (wd2 r3)) := k1.cell 6
              have c1_7 : V4.cell? ⟨U1.heap.size, 7, none⟩ = some (.int .u64 (wd3 r3)) := k1.cell 7
              have c1_8 : V4.cell? ⟨U1.heap.size, 8, none⟩ = some (.int .u64 (wd0 r4)) := k1.cell 8
              have c1_9 : V4.cell? ⟨U1.heap.size, 9, none⟩ = some (.int .u64 (wd1 r4)) := k1.cell 9
              have c1_10 : V4.cell? ⟨U1.heap.size, 10, none⟩ = some (.int .u64 (wd2 r4)) := k1.cell 10
              have c1_11 : V4.cell? ⟨U1.heap.size, 11, none⟩ = some (.int .u64 (wd3 r4)) := k1.cell 11
              have l1 := k1.lt
              have c2_0 : V4.cell? ⟨U3.heap.size, 0, none⟩ = some (.int .i64 1) := k2.cell 0
              have c2_1 : V4.cell? ⟨U3.heap.size, 1, none⟩ = some (.int .i64 1) := k2.cell 1
              have l2 := k2.lt
              have Kk1 := Lib.hid k1
              clear k1
              have Kk2 := Lib.hid k2
              clear k2
              refine wp_region_up V4.heap.size 29 [(true, 0), (true, 1), (true, 2), (true, 3), (true, 4), (true, 5), (true, 6), (true, 7), (true, 8), (true, 9), (true, 10), (true, 11), (true, 12), (false, 13), (false, 14), (true, 15), (true, 16), (true, 17), (true, 18), (true, 19), (true, 20), (false, 21), (false, 22), (true, 23), (true, 24), (true, 25), (true, 26), (true, 27), (false, 28)] (by kernel_rfl) (by kernel_rfl) (fun _ _ d _ _ h => by cases d <;> exact h) ?_
              have hb : Below V4.heap.size V4 V4.drew := (Below.refl _ _).drew
              iterate 13
                refine wpS_takeL rfl rfl ?_
                go_big_quiet_step (rfl)
                refine wpQuiet_nil ?_
              refine wpS_doL rfl ?_
              intro K hK
              go_wp2_with ((go_at_call 47; (with_reducible refine (crAt_is 1 1 r11 r12 r13 Hr11.out Hr12.out Hr13.out (by unfold In64; omega) (by unfold In64; omega)  _).mono ?_); rintro e w2 ⟨rfl, hn⟩))
              try replace hb := hb.trans (hn.mono hb.size)
              refine hK.out _ _ (up_iff.2 hb) ?_
              clear hK K
              try clear hn
              refine wpS_doL rfl ?_
              intro K hK
              go_wp2_with ((go_at_call 58; (with_reducible refine (SpCmp_is r2 r3 r4 r11 r12 r13 0 Hr14.out (Hr2.out ▸ mcx_in  ) (Hr3.out ▸ mcy_in  ) (Hr4.out ▸ mcw_in  ) (Hr11.out ▸ atx_in 1 1 (by unfold In64; omega) (by unfold In64; omega)) (Hr12.out ▸ aty_in 1 1 (by unfold In64; omega) (by unfold In64; omega)) (Hr13.out ▸ atw_in 1 1 (by unfold In64; omega) (by unfold In64; omega))  _).mono ?_); rintro e w2 ⟨rfl, hn⟩))
              try replace hb := hb.trans (hn.mono hb.size)
              refine hK.out _ _ (up_iff.2 hb) ?_
              clear hK K
              try clear hn
              iterate 6
                refine wpS_takeL rfl rfl ?_
                go_big_quiet_step (rfl)
                refine wpQuiet_nil ?_
              refine wpS_doL rfl ?_
              intro K hK
              go_wp2_with ((go_at_call 47; (with_reducible refine (crAt_is 1 1 r11 r12 r13 Hr11.out Hr12.out Hr13.out (by unfold In64; omega) (by unfold In64; omega)  _).mono ?_); rintro e w2 ⟨rfl, hn⟩))
              try replace hb := hb.trans (hn.mono hb.size)
              refine hK.out _ _ (up_iff.2 hb) ?_
              clear hK K
              try clear hn
              refine wpS_doL rfl ?_
              intro K hK
              go_wp2_with ((go_at_call 70; (with_reducible refine (SegHolds_is 0 0 1 1 r11 r12 r13 false Hz16.out (by unfold In64; omega) (by unfold In64; omega) (by unfold In64; omega) (by unfold In64; omega) (Hr11.out ▸ atx_in 1 1 (by unfold In64; omega) (by unfold In64; omega)) (Hr12.out ▸ aty_in 1 1 (by unfold In64; omega) (by unfold In64; omega)) (Hr13.out ▸ atw_in 1 1 (by unfold In64; omega) (by unfold In64; omega))  _).mono ?_); rintro e w2 ⟨rfl, hn⟩))
              try replace hb := hb.trans (hn.mono hb.size)
              refine hK.out _ _ (up_iff.2 hb) ?_
              clear hK K
              try clear hn
              iterate 5
                refine wpS_takeL rfl rfl ?_
                go_big_quiet_step (rfl)
                refine wpQuiet_nil ?_
              refine wpS_doL rfl ?_
              intro K hK
              go_wp2_with ((go_at_call 47; (with_reducible refine (crAt_is 1 1 r11 r12 r13 Hr11.out Hr12.out Hr13.out (by unfold In64; omega) (by unfold In64; omega)  _).mono ?_); rintro e w2 ⟨rfl, hn⟩))
              try replace hb := hb.trans (hn.mono hb.size)
              refine hK.out _ _ (up_iff.2 hb) ?_
              clear hK K
              try clear hn
              refine wpS_nil ?_
              simp only [List.drop_succ_cons, List.drop_zero]
              first | refine calls_w ?_ | refine name_world ?_ | refine list_world ?_ | refine post_world ?_
              intro U10 hU10
              first | subst hU10 | (rw [← hU10] at hb; clear hU10)
              clear c1_0 c1_1 c1_2 c1_3 c1_4 c1_5 c1_6 c1_7 c1_8 c1_9 c1_10 c1_11 l1 c2_0 c2_1 l2
              have k1 := Kk1.out.of hb
              clear Kk1
              have k2 := Kk2.out.of hb
              clear Kk2
              replace hb0 := hb0.trans (hb.mono hb0.size)
              clear hb
              have e0 : false = R0 := by rw [← HR0.out]; unfold cawk; (try rw [Hr1.out]); (try rw [Hr2.out]); (try rw [Hr3.out]); (try rw [Hr4.out]); (try rw [Hr5.out]); (try rw [Hr6.out]); (try rw [Hz7.out]); (try rw [Hr11.out]); (try rw [Hr12.out]); (try rw [Hr13.out]); (try rw [Hr14.out]); (try rw [Hz16.out]); all_goals first | rfl | simp
              subst e0
              go_wp2
              first | go_ret | go_ret2
              exact ⟨by first | rfl | simp, hb0⟩
            · obtain ⟨r17, hr17⟩ : ∃ o_o : Int, atx 2 2 = o_o := ⟨_, rfl⟩
              have Hr17 := Lib.hid hr17
              clear hr17
              obtain ⟨r18, hr18⟩ : ∃ o_o : Int, aty 2 2 = o_o := ⟨_, rfl⟩
              have Hr18 := Lib.hid hr18
              clear hr18
              obtain ⟨r19, hr19⟩ : ∃ o_o : Int, atw 2 2 = o_o := ⟨_, rfl⟩
              have Hr19 := Lib.hid hr19
              clear hr19
              have c1_0 : V4.cell? ⟨U1.heap.size, 0, none⟩ = some (.int .u64 (wd0 r2)) := k1.cell 0
              have c1_1 : V4.cell? ⟨U1.heap.size, 1, none⟩ = some (.int .u64 (wd1 r2)) := k1.cell 1
              have c1_2 : V4.cell? ⟨U1.heap.size, 2, none⟩ = some (.int .u64 (wd2 r2)) := k1.cell 2
              have c1_3 : V4.cell? ⟨U1.heap.size, 3, none⟩ = some (.int .u64 (wd3 r2)) := k1.cell 3
              have c1_4 : V4.cell? ⟨U1.heap.size, 4, none⟩ = some (.int .u64 (wd0 r3)) := k1.cell 4
              have c1_5 : V4.cell? ⟨U1.heap.size, 5, none⟩ = some (.int .u64 (wd1 r3)) := k1.cell 5
              have c1_6 : V4.cell? ⟨U1.heap.size, 6, none⟩ = some (.int .u64 (wd2 r3)) := k1.cell 6
              have c1_7 : V4.cell? ⟨U1.heap.size, 7, none⟩ = some (.int .u64 (wd3 r3)) := k1.cell 7
              have c1_8 : V4.cell? ⟨U1.heap.size, 8, none⟩ = some (.int .u64 (wd0 r4)) := k1.cell 8
              have c1_9 : V4.cell? ⟨U1.heap.size, 9, none⟩ = some (.int .u64 (wd1 r4)) := k1.cell 9
              have c1_10 : V4.cell? ⟨U1.heap.size, 10, none⟩ = some (.int .u64 (wd2 r4)) := k1.cell 10
              have c1_11 : V4.cell? ⟨U1.heap.size, 11, none⟩ = some (.int .u64 (wd3 r4)) := k1.cell 11
              have l1 := k1.lt
              have c2_0 : V4.cell? ⟨U3.heap.size, 0, none⟩ = some (.int .i64 1) := k2.cell 0
              have c2_1 : V4.cell? ⟨U3.heap.size, 1, none⟩ = some (.int .i64 1) := k2.cell 1
              have l2 := k2.lt
              have Kk1 := Lib.hid k1
              clear k1
              have Kk2 := Lib.hid k2
              clear k2
              refine wp_region_up V4.heap.size 29 [(true, 0), (true, 1), (true, 2), (true, 3), (true, 4), (true, 5), (true, 6), (true, 7), (true, 8), (true, 9), (true, 10), (true, 11), (true, 12), (false, 13), (false, 14), (true, 15), (true, 16), (true, 17), (true, 18), (true, 19), (true, 20), (false, 21), (false, 22), (true, 23), (true, 24), (true, 25), (true, 26), (true, 27), (false, 28)] (by kernel_rfl) (by kernel_rfl) (fun _ _ d _ _ h => by cases d <;> exact h) ?_
              have hb : Below V4.heap.size V4 V4.drew := (Below.refl _ _).drew
              iterate 13
                refine wpS_takeL rfl rfl ?_
                go_big_quiet_step (rfl)
                refine wpQuiet_nil ?_
              refine wpS_doL rfl ?_
              intro K hK
              go_wp2_with ((first | (go_at_call 47; (with_reducible refine (crAt_is 1 1 r11 r12 r13 Hr11.out Hr12.out Hr13.out (by unfold In64; omega) (by unfold In64; omega)  _).mono ?_); rintro e w2 ⟨rfl, hn⟩) | (go_at_call 47; (with_reducible refine (crAt_is 2 2 r17 r18 r19 Hr17.out Hr18.out Hr19.out (by unfold In64; omega) (by unfold In64; omega)  _).mono ?_); rintro e w2 ⟨rfl, hn⟩)))
              try replace hb := hb.trans (hn.mono hb.size)
              refine hK.out _ _ (up_iff.2 hb) ?_
              clear hK K
              try clear hn
              refine wpS_doL rfl ?_
              intro K hK
              go_wp2_with ((go_at_call 58; (with_reducible refine (SpCmp_is r2 r3 r4 r11 r12 r13 0 Hr14.out (Hr2.out ▸ mcx_in  ) (Hr3.out ▸ mcy_in  ) (Hr4.out ▸ mcw_in  ) (Hr11.out ▸ atx_in 1 1 (by unfold In64; omega) (by unfold In64; omega)) (Hr12.out ▸ aty_in 1 1 (by unfold In64; omega) (by unfold In64; omega)) (Hr13.out ▸ atw_in 1 1 (by unfold In64; omega) (by unfold In64; omega))  _).mono ?_); rintro e w2 ⟨rfl, hn⟩))
              try replace hb := hb.trans (hn.mono hb.size)
              refine hK.out _ _ (up_iff.2 hb) ?_
              clear hK K
              try clear hn
              iterate 6
                refine wpS_takeL rfl rfl ?_
                go_big_quiet_step (rfl)
                refine wpQuiet_nil ?_
              refine wpS_doL rfl ?_
              intro K hK
              go_wp2_with ((first | (go_at_call 47; (with_reducible refine (crAt_is 1 1 r11 r12 r13 Hr11.out Hr12.out Hr13.out (by unfold In64; omega) (by unfold In64; omega)  _).mono ?_); rintro e w2 ⟨rfl, hn⟩) | (go_at_call 47; (with_reducible refine (crAt_is 2 2 r17 r18 r19 Hr17.out Hr18.out Hr19.out (by unfold In64; omega) (by unfold In64; omega)  _).mono ?_); rintro e w2 ⟨rfl, hn⟩)))
              try replace hb := hb.trans (hn.mono hb.size)
              refine hK.out _ _ (up_iff.2 hb) ?_
              clear hK K
              try clear hn
              refine wpS_doL rfl ?_
              intro K hK
              go_wp2_with ((go_at_call 70; (with_reducible refine (SegHolds_is 0 0 1 1 r11 r12 r13 true Hz16.out (by unfold In64; omega) (by unfold In64; omega) (by unfold In64; omega) (by unfold In64; omega) (Hr11.out ▸ atx_in 1 1 (by unfold In64; omega) (by unfold In64; omega)) (Hr12.out ▸ aty_in 1 1 (by unfold In64; omega) (by unfold In64; omega)) (Hr13.out ▸ atw_in 1 1 (by unfold In64; omega) (by unfold In64; omega))  _).mono ?_); rintro e w2 ⟨rfl, hn⟩))
              try replace hb := hb.trans (hn.mono hb.size)
              refine hK.out _ _ (up_iff.2 hb) ?_
              clear hK K
              try clear hn
              iterate 5
                refine wpS_takeL rfl rfl ?_
                go_big_quiet_step (rfl)
                refine wpQuiet_nil ?_
              refine wpS_doL rfl ?_
              intro K hK
              go_wp2_with ((first | (go_at_call 47; (with_reducible refine (crAt_is 1 1 r11 r12 r13 Hr11.out Hr12.out Hr13.out (by unfold In64; omega) (by unfold In64; omega)  _).mono ?_); rintro e w2 ⟨rfl, hn⟩) | (go_at_call 47; (with_reducible refine (crAt_is 2 2 r17 r18 r19 Hr17.out Hr18.out Hr19.out (by unfold In64; omega) (by unfold In64; omega)  _).mono ?_); rintro e w2 ⟨rfl, hn⟩)))
              try replace hb := hb.trans (hn.mono hb.size)
              refine hK.out _ _ (up_iff.2 hb) ?_
              clear hK K
              try clear hn
              refine wpS_nil ?_
              simp only [List.drop_succ_cons, List.drop_zero]
              first | refine calls_w ?_ | refine name_world ?_ | refine list_world ?_ | refine post_world ?_
              intro U11 hU11
              first | subst hU11 | (rw [← hU11] at hb; clear hU11)
              clear c1_0 c1_1 c1_2 c1_3 c1_4 c1_5 c1_6 c1_7 c1_8 c1_9 c1_10 c1_11 l1 c2_0 c2_1 l2
              have k1 := Kk1.out.of hb
              clear Kk1
              have k2 := Kk2.out.of hb
              clear Kk2
              replace hb0 := hb0.trans (hb.mono hb0.size)
              clear hb
              go_wp2_with fail
              obtain ⟨z20, hz20⟩ : ∃ o_o : Bool, hldB 0 0 1 1 r17 r18 r19 = o_o := ⟨_, rfl⟩
              have Hz20 := Lib.hid hz20
              clear hz20
              refine (SegHolds_is 0 0 1 1 r17 r18 r19 z20 Hz20.out (by unfold In64; omega) (by unfold In64; omega) (by unfold In64; omega) (by unfold In64; omega) (Hr17.out ▸ atx_in 2 2 (by unfold In64; omega) (by unfold In64; omega)) (Hr18.out ▸ aty_in 2 2 (by unfold In64; omega) (by unfold In64; omega)) (Hr19.out ▸ atw_in 2 2 (by unfold In64; omega) (by unfold In64; omega))  _).mono ?_
              rintro e U12 ⟨rfl, hn⟩
              clear k1 k2
              replace hb0 := hb0.trans (hn.mono hb0.size)
              clear hn
              have e0 : (!z20) = R0 := by rw [← HR0.out]; unfold cawk; (try rw [Hr1.out]); (try rw [Hr2.out]); (try rw [Hr3.out]); (try rw [Hr4.out]); (try rw [Hr5.out]); (try rw [Hr6.out]); (try rw [Hz7.out]); (try rw [Hr11.out]); (try rw [Hr12.out]); (try rw [Hr13.out]); (try rw [Hr14.out]); (try rw [Hz16.out]); (try rw [Hr17.out]); (try rw [Hr18.out]); (try rw [Hr19.out]); (try rw [Hz20.out]); all_goals first | rfl | simp
              subst e0
              go_wp2
              first | go_ret | go_ret2
              exact ⟨by first | rfl | simp, hb0⟩
end Go.Proofs.Ytlcbomjdbdgbmaa

namespace Go.Proofs.Ytlcbomjdbdgbmaa
open Go.RowKit

set_option maxRecDepth 100000 in
theorem cawk_true : cawk = true := by kernel_rfl
theorem cawake_any (w : World) : Calls Try.prog 54 #[] w fun e w' => e = .returned (.bool true) ∧ Below w.heap.size w w' := cawake_is true cawk_true w
end Go.Proofs.Ytlcbomjdbdgbmaa

namespace Go.Proofs.Ytlcbomjdbdgbmaa
open Go.RowKit

/-- within a fraction two numbers are held against one another one step deeper -/
@[go_sem] theorem run_eqI9 (a0 a1 a2 a3 b0 b1 b2 b3 : Int) (w : World) :
    (Op.equalIn 9999 35 (.agg #[.int .u64 a0, .int .u64 a1, .int .u64 a2, .int .u64 a3]) (.agg #[.int .u64 b0, .int .u64 b1, .int .u64 b2, .int .u64 b3])).run Try.prog w = .ok (eq4 a0 a1 a2 a3 b0 b1 b2 b3) w := by
  have hu : Try.prog.underlying 35 = some (.array 4 33) := by kernel_rfl
  have hs : ∀ w, (sizeOf 33).run Try.prog w = .ok 1 w := fun w => by kernel_rfl
  have he : ∀ (a b : Int) w, (Op.equalIn 9998 33 (.int .u64 a) (.int .u64 b)).run Try.prog w = .ok (a == b) w := fun a b w => run_equalIn_int w 9997 _ .u64 .u64 a b (by kernel_rfl)
  have hp : ∀ (c : Array Value) (i : Nat) (v : Value) w, c[i]? = some v → (part 33 c i).run Try.prog w = .ok v w := by
    intro c i v w h
    have ha : (isAgg 33).run Try.prog w = .ok false w := by kernel_rfl
    unfold part
    simp [Sem.run_bind, ha, h]
  show (Op.equalIn (9998 + 1) _ _ _).run _ _ = _
  unfold Op.equalIn
  simp only [Sem.run_bind, run_underlying hu, Result.andThen_ok, hs]
  simp [List.range', he, hp, Sem.run_bind]
  unfold eq4
  by_cases h0 : a0 = b0 <;> by_cases h1 : a1 = b1 <;> by_cases h2 : a2 = b2 <;> by_cases h3 : a3 = b3 <;> simp [h0, h1, h2, h3]

@[go_sem] theorem eqP_self (a b : Int) : eqP a b a b = true := by unfold eqP; simp
@[go_sem] theorem eqP_ne {a b c d : Int} (h : ¬ a = c) : eqP a b c d = false := by unfold eqP; simp [h]
@[go_sem] theorem eqP_ne' {a b c d : Int} (h : ¬ c = a) : eqP a b c d = false := eqP_ne fun e => h e.symm
@[go_sem] theorem eqP_me {a b c d : Int} (h : ¬ b = d) : eqP a b c d = false := by unfold eqP; simp [h]
@[go_sem] theorem eqP_me' {a b c d : Int} (h : ¬ d = b) : eqP a b c d = false := eqP_me fun e => h e.symm
end Go.Proofs.Ytlcbomjdbdgbmaa

namespace Go.Proofs.Ytlcbomjdbdgbmaa
open Go.RowKit

def rowP (px py : Int) : Nat → List Value
  | 0 => []
  | m + 1 => rowP px py m ++ [.int .i64 px, .int .i64 py]
theorem rowP_0 (px py : Int) (m : Nat) : (rowP px py (m + 1))[0]? = some (.int .i64 px) := by
  induction m with
  | zero => rfl
  | succ m ih => rw [rowP, List.getElem?_append_left (by rcases List.getElem?_eq_some_iff.1 ih with ⟨h, _⟩; exact h)]; exact ih
theorem rowP_1 (px py : Int) (m : Nat) : (rowP px py (m + 1))[1]? = some (.int .i64 py) := by
  induction m with
  | zero => rfl
  | succ m ih => rw [rowP, List.getElem?_append_left (by rcases List.getElem?_eq_some_iff.1 ih with ⟨h, _⟩; exact h)]; exact ih
theorem info_rp : (Try.prog.info? 31).map (fun i => (i.zero, i.size, i.bytes)) = some (some (.agg #[.int .i64 0, .int .i64 0]), 2, 16) := by kernel_rfl
theorem run_eqR0 (a b c d : Int) (w : World) :
    (Op.equalIn 10000 31 (.agg #[.int .i64 a, .int .i64 b]) (.agg #[.int .i64 c, .int .i64 d])).run Try.prog w = .ok (eqP a b c d) w := by
  unfold eqP
  by_cases h0 : a = c <;> by_cases h1 : b = d
  all_goals go_simp
@[go_sem] theorem run_neqR (a b c d : Int) (w : World) :
    (binOp .neq 31 (.agg #[.int .i64 a, .int .i64 b]) (.agg #[.int .i64 c, .int .i64 d])).run Try.prog w = .ok (.bool (!eqP a b c d)) w := by
  rw [run_neq_struct, run_eqR0]; rfl
theorem own_shape {w : World} {base n size : Nat} {e : TypeId} {v : Value} {xs : List Value} (h : w.ownsRow base e size v n xs) (hn : 0 < n) :
    ∃ g cap, v = .slice (some ⟨g, 0, none⟩) n cap ∧ base ≤ g ∧ g < w.heap.size := by
  have k := h.lt
  rcases h.2 with ⟨_, h0⟩ | ⟨g, cap, cur, rfl, hb, _⟩
  · omega
  · exact ⟨g, cap, rfl, hb, (k g rfl).2⟩
theorem own_shape0 {w : World} {base size : Nat} {e : TypeId} {v : Value} {xs : List Value} (h : w.ownsRow base e size v 0 xs) : ∃ ao cap, v = .slice ao 0 cap := by
  rcases h.2 with ⟨rfl, h0⟩ | ⟨g, cap, cur, rfl, hb, _⟩
  · exact ⟨_, _, rfl⟩
  · exact ⟨_, _, rfl⟩
/-- the four ends, and whether each lies on both -/
def mL (ax ay bx b_y cx cy dx dy : Int) : List (Bool × Int × Int) :=
  [(onB ax ay bx b_y ax ay && onB cx cy dx dy ax ay, ax, ay), (onB ax ay bx b_y bx b_y && onB cx cy dx dy bx b_y, bx, b_y), (onB ax ay bx b_y cx cy && onB cx cy dx dy cx cy, cx, cy), (onB ax ay bx b_y dx dy && onB cx cy dx dy dx dy, dx, dy)]
theorem mL_drop {ax ay bx b_y cx cy dx dy : Int} {k : Nat} (hk : k < 4) : (mL ax ay bx b_y cx cy dx dy).drop k =
    (onB ax ay bx b_y (f4 ax bx cx dx k) (f4 ay b_y cy dy k) && onB cx cy dx dy (f4 ax bx cx dx k) (f4 ay b_y cy dy k), f4 ax bx cx dx k, f4 ay b_y cy dy k) :: (mL ax ay bx b_y cx cy dx dy).drop (k + 1) := by
  match k, hk with
  | 0, _ => rfl
  | 1, _ => rfl
  | 2, _ => rfl
  | 3, _ => rfl
theorem arr4 {W : World} {b : Nat} {t : TypeId} {ax ay bx b_y cx cy dx dy : Int} (h : Blk W b #[.int .i64 ax, .int .i64 ay, .int .i64 bx, .int .i64 b_y, .int .i64 cx, .int .i64 cy, .int .i64 dx, .int .i64 dy] t) {k : Nat} (hk : k < 4) :
    W.cell? ⟨b, k * 2, none⟩ = some (.int .i64 (f4 ax bx cx dx k)) ∧ W.cell? ⟨b, k * 2 + 1, none⟩ = some (.int .i64 (f4 ay b_y cy dy k)) := by
  match k, hk with
  | 0, _ => exact ⟨h.cell 0, h.cell 1⟩
  | 1, _ => exact ⟨h.cell 2, h.cell 3⟩
  | 2, _ => exact ⟨h.cell 4, h.cell 5⟩
  | 3, _ => exact ⟨h.cell 6, h.cell 7⟩
theorem own_of {w w' : World} {base n size : Nat} {e : TypeId} {v : Value} {xs : List Value} (h : w.ownsRow base e size v n xs) (hb : Below w.heap.size w w') : w'.ownsRow base e size v n xs := by
  have k := h.lt
  refine ⟨h.1, ?_⟩
  rcases h.2 with a | ⟨g, cap, cur, rfl, hg, hh, r⟩
  · exact .inl a
  · exact .inr ⟨g, cap, cur, rfl, hg, (hb.block g (k g rfl).2).trans hh, r⟩
def stP (n : Nat) (px py : Int) : Option (Int × Int) := if n = 0 then none else some (px, py)
theorem rm_f (s : Option (Int × Int)) (x y : Int) (l : List (Bool × Int × Int)) (f : Bool) : rm s ((false, x, y) :: l) f = rm s l f := by cases s <;> rfl

set_option maxRecDepth 100000 in
set_option maxHeartbeats 1000000 in
theorem rMeet_v (ax ay bx b_y cx cy dx dy r : Int) (hr : rmt ax ay bx b_y cx cy dx dy = r) (w : World) :
    Calls Try.prog 51 #[.agg #[.int .i64 ax, .int .i64 ay], .agg #[.int .i64 bx, .int .i64 b_y], .agg #[.int .i64 cx, .int .i64 cy], .agg #[.int .i64 dx, .int .i64 dy]] w fun e w' => e = .returned (.int .i64 r) ∧ Below w.heap.size w w' := by
  obtain ⟨i0, hi, hz0, hz1, hz2⟩ := info_parts info_rp
  obtain ⟨f, hf⟩ : ∃ f, fac ax ay bx b_y cx cy dx dy = f := ⟨_, rfl⟩
  have HF := Lib.hid hf
  have hr : rm none (mL ax ay bx b_y cx cy dx dy) f = r := by rw [← hf]; exact hr
  have HR := Lib.hid hr
  clear hr hf
  go_enter Try.func51, Try.ntmps51
  go_wp2_with fail
  refine name_world ?_
  intro V hV
  have ka : QVar V w.heap.size ax ay := by rw [hV]; exact (Blk.new _ _ _).alloc _ |>.alloc _ |>.alloc _ |>.alloc _
  have kb : QVar V (w.heap.size + 1) bx b_y := by rw [hV]; exact (Blk.new1 _ _ _ _).alloc _ |>.alloc _ |>.alloc _
  have kc : QVar V (w.heap.size + 1 + 1) cx cy := by rw [hV]; exact (Blk.new2 _ _ _ _ _).alloc _ |>.alloc _
  have kd : QVar V (w.heap.size + 1 + 1 + 1) dx dy := by rw [hV]; exact (Blk.new3 _ _ _ _ _ _).alloc _
  have kl : Blk V (w.heap.size + 1 + 1 + 1 + 1) #[.int .i64 ax, .int .i64 ay, .int .i64 bx, .int .i64 b_y, .int .i64 cx, .int .i64 cy, .int .i64 dx, .int .i64 dy] 136 := by rw [hV]; exact Blk.new4 _ _ _ _ _ _ _
  have hb0 : Below w.heap.size w V := by rw [hV]; exact below_a5 _ _ _ _ _ _
  clear hV
  have KS := Lib.hid (And.intro ka (And.intro kb (And.intro kc (And.intro kd kl))))
  have HB := Lib.hid hb0
  clear ka kb kc kd kl hb0
  go_loopw [10, 11] (fun on i wr => ∃ (k n : Nat) (px py : Int), k ≤ 4 ∧ n ≤ k ∧ i = .int .i64 k ∧ wr.ownsRow V.heap.size 31 2 on n (rowP px py n) ∧ Hid (rm (stP n px py) ((mL ax ay bx b_y cx cy dx dy).drop k) f = r) ∧ Below V.heap.size V wr) (fun _ i _ => 4 - (intOf i).toNat)
  case atStart => exact ⟨0, 0, 0, 0, by omega, by omega, rfl, World.ownsRow_nil _ _ _ _, HR.out, Below.refl _ _⟩
  case round =>
    rename_i wr
    clear HR
    obtain ⟨k, n, px, py, hk, hn0, rfl, hown, hrm, hbl⟩ := hrel
    obtain ⟨ka, kb, kc, kd, kl⟩ := KS.out
    replace ka : QVar wr _ _ _ := ka.of hbl
    replace kb : QVar wr _ _ _ := kb.of hbl
    replace kc : QVar wr _ _ _ := kc.of hbl
    replace kd : QVar wr _ _ _ := kd.of hbl
    replace kl := kl.of hbl
    have ca := QVar.c ka
    have cb := QVar.c kb
    have cc := QVar.c kc
    have cd := QVar.c kd
    have la := ka.lt
    have lb := kb.lt
    have lc := kc.lt
    have ld := kd.lt
    have ll := kl.lt
    by_cases h1 : k < 4
    · obtain ⟨e8, e9⟩ := arr4 kl h1
      have hd := mL_drop (ax := ax) (ay := ay) (bx := bx) (b_y := b_y) (cx := cx) (cy := cy) (dx := dx) (dy := dy) h1
      replace hrm := hrm.out
      rw [hd] at hrm
      clear hd kl ka kb kc kd
      obtain ⟨x, hx⟩ : ∃ x, f4 ax bx cx dx k = x := ⟨_, rfl⟩
      obtain ⟨y, hy⟩ : ∃ y, f4 ay b_y cy dy k = y := ⟨_, rfl⟩
      rw [hx] at e8 hrm
      rw [hy] at e9 hrm
      have HX := Lib.hid hx
      have HY := Lib.hid hy
      clear hx hy
      obtain ⟨u, hu⟩ : ∃ u, onB ax ay bx b_y x y = u := ⟨_, rfl⟩
      obtain ⟨v, hv⟩ : ∃ v, onB cx cy dx dy x y = v := ⟨_, rfl⟩
      rw [hu, hv] at hrm
      have HU := Lib.hid hu
      have HV := Lib.hid hv
      have RM := Lib.hid hrm
      have h4 : ((k : Nat) : Int) < 4 := by omega
      have OW := Lib.hid hown
      have HL := Lib.hid hbl
      clear hu hv hrm hown hbl
      cases u
      · go_wp2_with fail
        refine wp_region_up wr.heap.size 13 [(true, 0), (true, 1), (true, 2), (true, 3), (true, 4), (false, 5), (true, 6), (true, 7), (true, 8), (true, 9), (true, 10), (true, 11), (true, 12)] (by kernel_rfl) (by kernel_rfl) (fun _ _ d _ _ h => by cases d <;> exact h) ?_
        have hb : Below wr.heap.size wr wr.drew := (Below.refl _ _).drew
        iterate 5
          refine wpS_takeL rfl rfl ?_
          go_big_quiet_step (rfl)
          refine wpQuiet_nil ?_
        refine wpS_doL rfl ?_
        intro K hK
        go_wp2_with ((go_at_call 27; (with_reducible refine (rOn_v ax ay bx b_y x y false HU.out _).mono ?_); rintro e w2 ⟨rfl, hn⟩))
        replace hb := hb.trans (hn.mono hb.size)
        refine hK.out _ _ (up_iff.2 hb) ?_
        clear hK K
        clear hn
        iterate 7
          refine wpS_takeL rfl rfl ?_
          go_big_quiet_step (rfl)
          refine wpQuiet_nil ?_
        refine wpS_nil ?_
        simp only [List.drop_succ_cons, List.drop_zero]
        first | refine calls_w ?_ | refine name_world ?_ | refine list_world ?_ | refine post_world ?_
        intro U hU
        first | (subst hU; have u_ := U; clear u_) | (rw [← hU] at hb; clear hU)
        have OU := Lib.hid (own_of OW.out hb)
        have HL2 := Lib.hid (HL.out.trans (hb.mono HL.out.size))
        clear hb OW HL e8 e9 ca cb cc cd la lb lc ld ll
        go_wp2
        go_roundw
        case rel => exact ⟨k + 1, n, px, py, by omega, by omega, by go_num, OU.out, (rm_f _ x y _ f).symm.trans RM.out, HL2.out⟩
        case measure => simp [intOf]; omega
      · go_wp2_with fail
        refine wp_region_up wr.heap.size 13 [(true, 0), (true, 1), (true, 2), (true, 3), (true, 4), (false, 5), (true, 6), (true, 7), (true, 8), (true, 9), (true, 10), (true, 11), (true, 12)] (by kernel_rfl) (by kernel_rfl) (fun _ _ d _ _ h => by cases d <;> exact h) ?_
        have hb : Below wr.heap.size wr wr.drew := (Below.refl _ _).drew
        iterate 5
          refine wpS_takeL rfl rfl ?_
          go_big_quiet_step (rfl)
          refine wpQuiet_nil ?_
        refine wpS_doL rfl ?_
        intro K hK
        go_wp2_with ((go_at_call 27; (with_reducible refine (rOn_v ax ay bx b_y x y true HU.out _).mono ?_); rintro e w2 ⟨rfl, hn⟩))
        replace hb := hb.trans (hn.mono hb.size)
        refine hK.out _ _ (up_iff.2 hb) ?_
        clear hK K
        clear hn
        iterate 7
          refine wpS_takeL rfl rfl ?_
          go_big_quiet_step (rfl)
          refine wpQuiet_nil ?_
        refine wpS_nil ?_
        simp only [List.drop_succ_cons, List.drop_zero]
        first | refine calls_w ?_ | refine name_world ?_ | refine list_world ?_ | refine post_world ?_
        intro U hU
        first | (subst hU; have u_ := U; clear u_) | (rw [← hU] at hb; clear hU)
        have OU := Lib.hid (own_of OW.out hb)
        have HL2 := Lib.hid (HL.out.trans (hb.mono HL.out.size))
        clear hb OW HL e8 e9 ca cb cc cd la lb lc ld ll
        obtain ⟨ka, kb, kc, kd, kl⟩ := KS.out
        replace kc : QVar U _ _ _ := kc.of HL2.out
        replace kd : QVar U _ _ _ := kd.of HL2.out
        replace kl := kl.of HL2.out
        have cc := QVar.c kc
        have cd := QVar.c kd
        have lc := kc.lt
        have ld := kd.lt
        have ll := kl.lt
        obtain ⟨e8, e9⟩ := arr4 kl h1
        rw [HX.out] at e8
        rw [HY.out] at e9
        clear ka kb kc kd kl
        go_wp2_with fail
        refine (rOn_v cx cy dx dy x y v HV.out _).mono ?_
        rintro e U2 ⟨rfl, hn⟩
        have OU := Lib.hid (own_of OU.out hn)
        have HL2 := Lib.hid (HL2.out.trans (hn.mono HL2.out.size))
        clear hn e8 e9 cc cd lc ld ll
        cases v
        · go_wp2
          go_roundw
          case rel => exact ⟨k + 1, n, px, py, by omega, by omega, by go_num, OU.out, (rm_f _ x y _ f).symm.trans RM.out, HL2.out⟩
          case measure => simp [intOf]; omega
        · have kl := KS.out.2.2.2.2.of HL2.out
          obtain ⟨e8, e9⟩ := arr4 kl h1
          rw [HX.out] at e8
          rw [HY.out] at e9
          have ll := kl.lt
          clear kl HU HV
          by_cases hn : n = 0
          · subst hn
            obtain ⟨ao, cap, rfl⟩ := own_shape0 OU.out
            go_wp2_with fail
            go_region
            refine name_q ?_
            intro U3 hU3
            have OU := Lib.hid (show U3.ownsRow V.heap.size 31 2 _ 0 [] by rw [hU3]; exact OU.out)
            have HL2 := Lib.hid (show Below V.heap.size V U3 by rw [hU3]; exact HL2.out.drew)
            clear hU3 e8 e9 ll
            have kl := KS.out.2.2.2.2.of HL2.out
            obtain ⟨e8, e9⟩ := arr4 kl h1
            rw [HX.out] at e8
            rw [HY.out] at e9
            have ll := kl.lt
            clear kl HX HY
            go_wp2_with (at_builtin; refine wpList_append_own _ rfl _ _ 44 rfl V.heap.size 31 i0 (.agg #[.int .i64 0, .int .i64 0]) 2 16 Try.underlying44 hi hz0 hz1 hz2 rfl (by decide) _ _ _ rfl (OU.out.alloc _) ⟨U3.heap.size, 0, none⟩ 1 1 [.int .i64 x, .int .i64 y] rfl rfl ?c1 ?c2 ?c3 ?c4 ?c5 ?_)
            case c1 =>
              intro j u hj
              match j, hj with
              | 0, hj => simp at hj; subst hj; simp [Addr.add]
              | 1, hj => simp at hj; subst hj; simp [Addr.add]
            case c2 => intro u hu; simp at hu; rcases hu with rfl | rfl <;> rfl
            case c3 => unfold maxLen; omega
            case c4 => omega
            case c5 => have := HL2.out.size; simp; omega
            intro v' w1 hown' hgrow _
            have hb1 : Below V.heap.size V w1 := (HL2.out.alloc HL2.out.size _).grown hgrow (by have := HL2.out.size; simp; omega) (fun k hk => (OU.out.lt k hk).1)
            have own1 : w1.ownsRow V.heap.size 31 2 v' 1 (rowP x y 1) := hown'
            have rm1 : rm (stP 1 x y) ((mL ax ay bx b_y cx cy dx dy).drop (k + 1)) f = r := RM.out
            clear hown' hgrow OU e8 e9 ll
            go_wp2
            go_roundw
            case rel => exact ⟨k + 1, 1, x, y, by omega, by omega, by go_num, own1, rm1, hb1⟩
            case measure => simp [intOf]; omega
          · obtain ⟨m, rfl⟩ : ∃ m, n = m + 1 := ⟨n - 1, by omega⟩
            obtain ⟨g, cap, rfl, hg, hgl⟩ := own_shape OU.out (by omega)
            have d0 : U2.cell? ⟨g, 0, none⟩ = some (.int .i64 px) := OU.out.cells (g := g) rfl 0 _ (rowP_0 px py m)
            have d1 : U2.cell? ⟨g, 1, none⟩ = some (.int .i64 py) := OU.out.cells (g := g) rfl 1 _ (rowP_1 px py m)
            have p0 : (0 : Int) < ((m + 1 : Nat) : Int) := by omega
            have p1 : (0 : Int) < (m : Int) + 1 := by omega
            obtain ⟨q, hq⟩ : ∃ q, eqP px py x y = q := ⟨_, rfl⟩
            cases q
            · have hr2 : r = 2 := by
                rw [← RM.out]
                show (bif (px == x && py == y) then _ else (2 : Int)) = 2
                rw [show (px == x && py == y) = false from hq]; rfl
              by_cases hpx : px = x
              · subst hpx
                have hpy : ¬ py = y := by rintro rfl; unfold eqP at hq; simp at hq
                go_wp2_with fail
                go_region
                refine name_q ?_
                intro U3 hU3
                have hl3 : Below V.heap.size V U3 := by rw [hU3]; exact HL2.out.drew
                clear hU3 d0 d1 e8 e9
                go_wp2
                go_ret
                exact ⟨hr2.symm ▸ rfl, HB.out.trans (hl3.mono HB.out.size)⟩
              · have hpx' : ¬ x = px := fun e => hpx e.symm
                go_wp2_with fail
                go_region
                refine name_q ?_
                intro U3 hU3
                have hl3 : Below V.heap.size V U3 := by rw [hU3]; exact HL2.out.drew
                clear hU3 d0 d1 e8 e9
                go_wp2
                go_ret
                exact ⟨hr2.symm ▸ rfl, HB.out.trans (hl3.mono HB.out.size)⟩
            · have hxy : px = x ∧ py = y := by unfold eqP at hq; simpa using hq
              obtain ⟨rfl, rfl⟩ := hxy
              go_wp2_with fail
              go_region
              refine name_q ?_
              intro U3 hU3
              have OU := Lib.hid (show U3.ownsRow V.heap.size 31 2 _ (m + 1) (rowP px py (m + 1)) by rw [hU3]; exact OU.out)
              have HL2 := Lib.hid (show Below V.heap.size V U3 by rw [hU3]; exact HL2.out.drew)
              clear hU3 e8 e9 ll d0 d1
              have kl := KS.out.2.2.2.2.of HL2.out
              obtain ⟨e8, e9⟩ := arr4 kl h1
              rw [HX.out] at e8
              rw [HY.out] at e9
              have ll := kl.lt
              clear kl HX HY
              go_wp2_with (at_builtin; refine wpList_append_own _ rfl _ _ 44 rfl V.heap.size 31 i0 (.agg #[.int .i64 0, .int .i64 0]) 2 16 Try.underlying44 hi hz0 hz1 hz2 rfl (by decide) _ _ _ rfl (OU.out.alloc _) ⟨U3.heap.size, 0, none⟩ 1 1 [.int .i64 px, .int .i64 py] rfl rfl ?c1 ?c2 ?c3 ?c4 ?c5 ?_)
              case c1 =>
                intro j u hj
                match j, hj with
                | 0, hj => simp at hj; subst hj; simp [Addr.add]
                | 1, hj => simp at hj; subst hj; simp [Addr.add]
              case c2 => intro u hu; simp at hu; rcases hu with rfl | rfl <;> rfl
              case c3 => unfold maxLen; omega
              case c4 => omega
              case c5 => have := HL2.out.size; simp; omega
              intro v' w1 hown' hgrow _
              have hb1 : Below V.heap.size V w1 := (HL2.out.alloc HL2.out.size _).grown hgrow (by have := HL2.out.size; simp; omega) (fun k hk => (OU.out.lt k hk).1)
              have own1 : w1.ownsRow V.heap.size 31 2 v' (m + 1 + 1) (rowP px py (m + 1 + 1)) := hown'
              have rm1 : rm (stP (m + 1 + 1) px py) ((mL ax ay bx b_y cx cy dx dy).drop (k + 1)) f = r := by
                rw [← RM.out]
                show _ = (bif (px == px && py == py) then rm (some (px, py)) ((mL ax ay bx b_y cx cy dx dy).drop (k + 1)) f else (2 : Int))
                rw [show (px == px && py == py) = true from hq]; rfl
              clear hown' hgrow OU e8 e9 ll
              go_wp2
              go_roundw
              case rel => exact ⟨k + 1, m + 1 + 1, px, py, by omega, by omega, by go_num, own1, rm1, hb1⟩
              case measure => simp [intOf]; omega
    · obtain rfl : k = 4 := by omega
      replace hrm := hrm.out
      have hm : rm (stP n px py) [] f = r := hrm
      clear hrm kl ka kb kc kd
      by_cases hn : n = 0
      · subst hn
        obtain ⟨ao, cap, rfl⟩ := own_shape0 hown
        have hm : (bif f then (1 : Int) else 0) = r := hm
        clear hown
        go_wp2_with fail
        refine (rFac_any ax ay bx b_y cx cy dx dy _).mono ?_
        rintro e U2 ⟨rfl, hn⟩
        rw [HF.out]
        have hl3 := hbl.trans (hn.mono hbl.size)
        clear hn hbl
        cases f
        · go_wp2
          go_ret
          exact ⟨hm ▸ rfl, HB.out.trans (hl3.mono HB.out.size)⟩
        · go_wp2
          go_ret
          exact ⟨hm ▸ rfl, HB.out.trans (hl3.mono HB.out.size)⟩
      · obtain ⟨m, rfl⟩ : ∃ m, n = m + 1 := ⟨n - 1, by omega⟩
        obtain ⟨g, cap, rfl, hg, hgl⟩ := own_shape hown (by omega)
        have hm : (1 : Int) = r := hm
        have p0 : (0 : Int) < ((m + 1 : Nat) : Int) := by omega
        have p1 : (0 : Int) < (m : Int) + 1 := by omega
        clear hown
        go_wp2
        go_ret
        exact ⟨hm ▸ rfl, HB.out.trans (hbl.mono HB.out.size)⟩
end Go.Proofs.Ytlcbomjdbdgbmaa

namespace Go.Proofs.Ytlcbomjdbdgbmaa
open Go.RowKit

set_option maxRecDepth 100000 in
set_option maxHeartbeats 4000000 in

theorem CMeets_1 (ax : Int) (ay : Int) (bx : Int) (b_y : Int) (cx : Int) (cy : Int) (dx : Int) (dy : Int)    (hP0 : crR ax ay bx b_y = false) (hP1 : sgR ax ay bx b_y = false) (hP2 : mtk ax ay bx b_y cx cy dx dy = 0) (hP3 : mtk cx cy dx dy ax ay bx b_y = 0) (hP4 : mtx ax ay bx b_y cx cy dx dy = 0) (hP5 : mty ax ay bx b_y cx cy dx dy = 0) (hP6 : mtw ax ay bx b_y cx cy dx dy = 0) (hP7 : mtx cx cy dx dy ax ay bx b_y = 0) (hP8 : mty cx cy dx dy ax ay bx b_y = 0) (hP9 : mtw cx cy dx dy ax ay bx b_y = 0) (_iax : In64 ax) (_iay : In64 ay) (_ibx : In64 bx) (_ib_y : In64 b_y) (_icx : In64 cx) (_icy : In64 cy) (_idx : In64 dx) (_idy : In64 dy)  (w : World)  :
    Calls Try.prog 10 #[.agg #[.int .i64 ax, .int .i64 ay, .int .i64 bx, .int .i64 b_y], .agg #[.int .i64 cx, .int .i64 cy, .int .i64 dx, .int .i64 dy]] w fun e w' => e = .returned (.bool true) ∧ Below w.heap.size w w' := by

  have HP0 := Lib.hid hP0
  clear hP0
  have HP1 := Lib.hid hP1
  clear hP1
  have HP2 := Lib.hid hP2
  clear hP2
  have HP3 := Lib.hid hP3
  clear hP3
  have HP4 := Lib.hid hP4
  clear hP4
  have HP5 := Lib.hid hP5
  clear hP5
  have HP6 := Lib.hid hP6
  clear hP6
  have HP7 := Lib.hid hP7
  clear hP7
  have HP8 := Lib.hid hP8
  clear hP8
  have HP9 := Lib.hid hP9
  clear hP9
  go_enter Try.func10, Try.ntmps10
  go_wp2_with fail
  first | refine calls_w ?_ | refine name_world ?_ | refine list_world ?_ | refine post_world ?_
  intro V1 hV1
  have hn : Below w.heap.size w V1 := by rw [hV1]; exact below_a2 _ _ _
  have nhb0 := hn
  have k1 : Blk V1 w.heap.size #[.int .i64 ax, .int .i64 ay, .int .i64 bx, .int .i64 b_y] 50 := by rw [hV1]; exact ((Blk.new _ _ _).alloc _)
  have k2 : Blk V1 (w.heap.size + 1) #[.int .i64 cx, .int .i64 cy, .int .i64 dx, .int .i64 dy] 50 := by rw [hV1]; exact (Blk.new1 _ _ _ _)
  clear hV1
  have hb0 := nhb0
  clear nhb0
  refine (Meet_is ax ay bx b_y cx cy dx dy 0 0 0 0 HP2.out HP4.out HP5.out HP6.out _iax _iay _ibx _ib_y _icx _icy _idx _idy  _).mono ?_
  rintro e U2 ⟨rfl, hn⟩
  replace k1 := k1.of hn
  replace k2 := k2.of hn
  replace hb0 := hb0.trans (hn.mono hb0.size)
  clear hn
  have c1_0 : U2.cell? ⟨w.heap.size, 0, none⟩ = some (.int .i64 ax) := k1.cell 0
  have c1_1 : U2.cell? ⟨w.heap.size, 1, none⟩ = some (.int .i64 ay) := k1.cell 1
  have c1_2 : U2.cell? ⟨w.heap.size, 2, none⟩ = some (.int .i64 bx) := k1.cell 2
  have c1_3 : U2.cell? ⟨w.heap.size, 3, none⟩ = some (.int .i64 b_y) := k1.cell 3
  have l1 := k1.lt
  have c2_0 : U2.cell? ⟨(w.heap.size + 1), 0, none⟩ = some (.int .i64 cx) := k2.cell 0
  have c2_1 : U2.cell? ⟨(w.heap.size + 1), 1, none⟩ = some (.int .i64 cy) := k2.cell 1
  have c2_2 : U2.cell? ⟨(w.heap.size + 1), 2, none⟩ = some (.int .i64 dx) := k2.cell 2
  have c2_3 : U2.cell? ⟨(w.heap.size + 1), 3, none⟩ = some (.int .i64 dy) := k2.cell 3
  have l2 := k2.lt
  have l2_0 : w.heap.size < U2.heap.size := by have := k2.lt; omega
  go_wp2_with fail
  clear c1_0 c1_1 c1_2 c1_3 l1 c2_0 c2_1 c2_2 c2_3 l2 l2_0
  first | refine calls_w ?_ | refine name_world ?_ | refine list_world ?_ | refine post_world ?_
  intro V3 hV3
  have D1 := Lib.hid k1.lt
  have D2 := Lib.hid k2.lt
  have D3 := Lib.hid hb0.size
  have hn : Below U2.heap.size U2 V3 := by rw [hV3]; exact below_a1 _ _
  have nk1 := k1.of hn
  have nk2 := k2.of hn
  have nhb0 := hb0.trans (hn.mono hb0.size)
  clear hn
  have k3 : Blk V3 U2.heap.size #[.int .u64 (wd0 0), .int .u64 (wd1 0), .int .u64 (wd2 0), .int .u64 (wd3 0), .int .u64 (wd0 0), .int .u64 (wd1 0), .int .u64 (wd2 0), .int .u64 (wd3 0), .int .u64 (wd0 0), .int .u64 (wd1 0), .int .u64 (wd2 0), .int .u64 (wd3 0)] 67 := by rw [hV3]; exact (Blk.new _ _ _)
  clear k1 k2
  clear hb0
  clear hV3
  have k1 := nk1
  clear nk1
  have k2 := nk2
  clear nk2
  have hb0 := nhb0
  clear nhb0
  refine (Meet_is cx cy dx dy ax ay bx b_y 0 0 0 0 HP3.out HP7.out HP8.out HP9.out _icx _icy _idx _idy _iax _iay _ibx _ib_y  _).mono ?_
  rintro e U4 ⟨rfl, hn⟩
  replace k1 := k1.of hn
  replace k2 := k2.of hn
  replace k3 := k3.of hn
  replace hb0 := hb0.trans (hn.mono hb0.size)
  clear hn
  have c1_0 : U4.cell? ⟨w.heap.size, 0, none⟩ = some (.int .i64 ax) := k1.cell 0
  have c1_1 : U4.cell? ⟨w.heap.size, 1, none⟩ = some (.int .i64 ay) := k1.cell 1
  have c1_2 : U4.cell? ⟨w.heap.size, 2, none⟩ = some (.int .i64 bx) := k1.cell 2
  have c1_3 : U4.cell? ⟨w.heap.size, 3, none⟩ = some (.int .i64 b_y) := k1.cell 3
  have l1 := k1.lt
  go_wp2_with fail
  clear c1_0 c1_1 c1_2 c1_3 l1
  first | refine calls_w ?_ | refine name_world ?_ | refine list_world ?_ | refine post_world ?_
  intro V5 hV5
  have D4 := Lib.hid k1.lt
  have D5 := Lib.hid k2.lt
  have D6 := Lib.hid k3.lt
  have D7 := Lib.hid hb0.size
  have hn : Below U4.heap.size U4 V5 := by rw [hV5]; exact below_a1 _ _
  have nk1 := k1.of hn
  have nk2 := k2.of hn
  have nk3 := k3.of hn
  have nhb0 := hb0.trans (hn.mono hb0.size)
  clear hn
  have k4 : Blk V5 U4.heap.size #[.int .u64 (wd0 0), .int .u64 (wd1 0), .int .u64 (wd2 0), .int .u64 (wd3 0), .int .u64 (wd0 0), .int .u64 (wd1 0), .int .u64 (wd2 0), .int .u64 (wd3 0), .int .u64 (wd0 0), .int .u64 (wd1 0), .int .u64 (wd2 0), .int .u64 (wd3 0)] 67 := by rw [hV5]; exact (Blk.new _ _ _)
  clear k1 k2 k3
  clear hb0
  clear hV5
  have k1 := nk1
  clear nk1
  have k2 := nk2
  clear nk2
  have k3 := nk3
  clear nk3
  have hb0 := nhb0
  clear nhb0
  refine (cright_is ax ay bx b_y false HP0.out _iax _iay _ibx _ib_y  _).mono ?_
  rintro e U6 ⟨rfl, hn⟩
  replace k1 := k1.of hn
  replace k2 := k2.of hn
  replace k3 := k3.of hn
  replace k4 := k4.of hn
  replace hb0 := hb0.trans (hn.mono hb0.size)
  clear hn
  go_wp2_with fail
  have c1_0 : U6.cell? ⟨w.heap.size, 0, none⟩ = some (.int .i64 ax) := k1.cell 0
  have c1_1 : U6.cell? ⟨w.heap.size, 1, none⟩ = some (.int .i64 ay) := k1.cell 1
  have c1_2 : U6.cell? ⟨w.heap.size, 2, none⟩ = some (.int .i64 bx) := k1.cell 2
  have c1_3 : U6.cell? ⟨w.heap.size, 3, none⟩ = some (.int .i64 b_y) := k1.cell 3
  have l1 := k1.lt
  have Kk1 := Lib.hid k1
  clear k1
  have Kk2 := Lib.hid k2
  clear k2
  have Kk3 := Lib.hid k3
  clear k3
  have Kk4 := Lib.hid k4
  clear k4
  refine wp_region_up U6.heap.size 12 [(true, 0), (true, 1), (true, 2), (true, 3), (true, 4), (true, 5), (true, 6), (true, 7), (true, 8), (true, 9), (true, 11), (false, 10)] (by kernel_rfl) (by kernel_rfl) (fun _ _ d _ _ h => by cases d <;> exact h) ?_
  have hb : Below U6.heap.size U6 U6.drew := (Below.refl _ _).drew
  iterate 11
    refine wpS_takeL rfl rfl ?_
    go_big_quiet_step (rfl)
    refine wpQuiet_nil ?_
  refine wpS_doL rfl ?_
  intro K hK
  go_wp2_with ((go_at_call 53; (with_reducible refine (SegRight_is ax ay bx b_y false HP1.out _iax _iay _ibx _ib_y  _).mono ?_); rintro e w2 ⟨rfl, hn⟩))
  try replace hb := hb.trans (hn.mono hb.size)
  refine hK.out _ _ (up_iff.2 hb) ?_
  clear hK K
  try clear hn
  refine wpS_nil ?_
  simp only [List.drop_succ_cons, List.drop_zero]
  first | refine calls_w ?_ | refine name_world ?_ | refine list_world ?_ | refine post_world ?_
  intro U7 hU7
  first | (subst hU7; have u_ := U7; clear u_) | (rw [← hU7] at hb; clear hU7)
  clear c1_0 c1_1 c1_2 c1_3 l1
  have k1 := Kk1.out.of hb
  clear Kk1
  have k2 := Kk2.out.of hb
  clear Kk2
  have k3 := Kk3.out.of hb
  clear Kk3
  have k4 := Kk4.out.of hb
  clear Kk4
  replace hb0 := hb0.trans (hb.mono hb0.size)
  clear hb
  go_wp2_with fail
  refine (cright_is ax ay bx b_y false HP0.out _iax _iay _ibx _ib_y  _).mono ?_
  rintro e U8 ⟨rfl, hn⟩
  replace k1 := k1.of hn
  replace k2 := k2.of hn
  replace k3 := k3.of hn
  replace k4 := k4.of hn
  replace hb0 := hb0.trans (hn.mono hb0.size)
  clear hn
  have c3_0 : U8.cell? ⟨U2.heap.size, 0, none⟩ = some (.int .u64 (wd0 0)) := k3.cell 0
  have c3_1 : U8.cell? ⟨U2.heap.size, 1, none⟩ = some (.int .u64 (wd1 0)) := k3.cell 1
  have c3_2 : U8.cell? ⟨U2.heap.size, 2, none⟩ = some (.int .u64 (wd2 0)) := k3.cell 2
  have c3_3 : U8.cell? ⟨U2.heap.size, 3, none⟩ = some (.int .u64 (wd3 0)) := k3.cell 3
  have c3_4 : U8.cell? ⟨U2.heap.size, 4, none⟩ = some (.int .u64 (wd0 0)) := k3.cell 4
  have c3_5 : U8.cell? ⟨U2.heap.size, 5, none⟩ = some (.int .u64 (wd1 0)) := k3.cell 5
  have c3_6 : U8.cell? ⟨U2.heap.size, 6, none⟩ = some (.int .u64 (wd2 0)) := k3.cell 6
  have c3_7 : U8.cell? ⟨U2.heap.size, 7, none⟩ = some (.int .u64 (wd3 0)) := k3.cell 7
  have c3_8 : U8.cell? ⟨U2.heap.size, 8, none⟩ = some (.int .u64 (wd0 0)) := k3.cell 8
  have c3_9 : U8.cell? ⟨U2.heap.size, 9, none⟩ = some (.int .u64 (wd1 0)) := k3.cell 9
  have c3_10 : U8.cell? ⟨U2.heap.size, 10, none⟩ = some (.int .u64 (wd2 0)) := k3.cell 10
  have c3_11 : U8.cell? ⟨U2.heap.size, 11, none⟩ = some (.int .u64 (wd3 0)) := k3.cell 11
  have l3 := k3.lt
  have c4_0 : U8.cell? ⟨U4.heap.size, 0, none⟩ = some (.int .u64 (wd0 0)) := k4.cell 0
  have c4_1 : U8.cell? ⟨U4.heap.size, 1, none⟩ = some (.int .u64 (wd1 0)) := k4.cell 1
  have c4_2 : U8.cell? ⟨U4.heap.size, 2, none⟩ = some (.int .u64 (wd2 0)) := k4.cell 2
  have c4_3 : U8.cell? ⟨U4.heap.size, 3, none⟩ = some (.int .u64 (wd3 0)) := k4.cell 3
  have c4_4 : U8.cell? ⟨U4.heap.size, 4, none⟩ = some (.int .u64 (wd0 0)) := k4.cell 4
  have c4_5 : U8.cell? ⟨U4.heap.size, 5, none⟩ = some (.int .u64 (wd1 0)) := k4.cell 5
  have c4_6 : U8.cell? ⟨U4.heap.size, 6, none⟩ = some (.int .u64 (wd2 0)) := k4.cell 6
  have c4_7 : U8.cell? ⟨U4.heap.size, 7, none⟩ = some (.int .u64 (wd3 0)) := k4.cell 7
  have c4_8 : U8.cell? ⟨U4.heap.size, 8, none⟩ = some (.int .u64 (wd0 0)) := k4.cell 8
  have c4_9 : U8.cell? ⟨U4.heap.size, 9, none⟩ = some (.int .u64 (wd1 0)) := k4.cell 9
  have c4_10 : U8.cell? ⟨U4.heap.size, 10, none⟩ = some (.int .u64 (wd2 0)) := k4.cell 10
  have c4_11 : U8.cell? ⟨U4.heap.size, 11, none⟩ = some (.int .u64 (wd3 0)) := k4.cell 11
  have l4 := k4.lt
  go_wp2_with fail
  clear c3_0 c3_1 c3_2 c3_3 c3_4 c3_5 c3_6 c3_7 c3_8 c3_9 c3_10 c3_11 l3 c4_0 c4_1 c4_2 c4_3 c4_4 c4_5 c4_6 c4_7 c4_8 c4_9 c4_10 c4_11 l4
  refine (cawake_any _).mono ?_
  rintro e U9 ⟨rfl, hn⟩
  replace k1 := k1.of hn
  replace k2 := k2.of hn
  replace k3 := k3.of hn
  replace k4 := k4.of hn
  replace hb0 := hb0.trans (hn.mono hb0.size)
  clear hn
  go_wp2
  first | go_ret | go_ret2
  exact ⟨by first | rfl | (simp; done) | (simp; assumption), hb0⟩

set_option maxRecDepth 100000 in
set_option maxHeartbeats 4000000 in

theorem CMeets_2 (ax : Int) (ay : Int) (bx : Int) (b_y : Int) (cx : Int) (cy : Int) (dx : Int) (dy : Int)    (hP0 : crR ax ay bx b_y = true) (hP1 : sgR ax ay bx b_y = true) (hP2 : crR cx cy dx dy = false) (hP3 : mtk ax ay bx b_y cx cy dx dy = 0) (hP4 : mtk cx cy dx dy ax ay bx b_y = 0) (hP5 : mtx ax ay bx b_y cx cy dx dy = 0) (hP6 : mty ax ay bx b_y cx cy dx dy = 0) (hP7 : mtw ax ay bx b_y cx cy dx dy = 0) (hP8 : mtx cx cy dx dy ax ay bx b_y = 0) (hP9 : mty cx cy dx dy ax ay bx b_y = 0) (hP10 : mtw cx cy dx dy ax ay bx b_y = 0) (_iax : In64 ax) (_iay : In64 ay) (_ibx : In64 bx) (_ib_y : In64 b_y) (_icx : In64 cx) (_icy : In64 cy) (_idx : In64 dx) (_idy : In64 dy)  (w : World)  :
    Calls Try.prog 10 #[.agg #[.int .i64 ax, .int .i64 ay, .int .i64 bx, .int .i64 b_y], .agg #[.int .i64 cx, .int .i64 cy, .int .i64 dx, .int .i64 dy]] w fun e w' => e = .returned (.bool true) ∧ Below w.heap.size w w' := by

  have HP0 := Lib.hid hP0
  clear hP0
  have HP1 := Lib.hid hP1
  clear hP1
  have HP2 := Lib.hid hP2
  clear hP2
  have HP3 := Lib.hid hP3
  clear hP3
  have HP4 := Lib.hid hP4
  clear hP4
  have HP5 := Lib.hid hP5
  clear hP5
  have HP6 := Lib.hid hP6
  clear hP6
  have HP7 := Lib.hid hP7
  clear hP7
  have HP8 := Lib.hid hP8
  clear hP8
  have HP9 := Lib.hid hP9
  clear hP9
  have HP10 := Lib.hid hP10
  clear hP10
  go_enter Try.func10, Try.ntmps10
  go_wp2_with fail
  first | refine calls_w ?_ | refine name_world ?_ | refine list_world ?_ | refine post_world ?_
  intro V1 hV1
  have hn : Below w.heap.size w V1 := by rw [hV1]; exact below_a2 _ _ _
  have nhb0 := hn
  have k1 : Blk V1 w.heap.size #[.int .i64 ax, .int .i64 ay, .int .i64 bx, .int .i64 b_y] 50 := by rw [hV1]; exact ((Blk.new _ _ _).alloc _)
  have k2 : Blk V1 (w.heap.size + 1) #[.int .i64 cx, .int .i64 cy, .int .i64 dx, .int .i64 dy] 50 := by rw [hV1]; exact (Blk.new1 _ _ _ _)
  clear hV1
  have hb0 := nhb0
  clear nhb0
  refine (Meet_is ax ay bx b_y cx cy dx dy 0 0 0 0 HP3.out HP5.out HP6.out HP7.out _iax _iay _ibx _ib_y _icx _icy _idx _idy  _).mono ?_
  rintro e U2 ⟨rfl, hn⟩
  replace k1 := k1.of hn
  replace k2 := k2.of hn
  replace hb0 := hb0.trans (hn.mono hb0.size)
  clear hn
  have c1_0 : U2.cell? ⟨w.heap.size, 0, none⟩ = some (.int .i64 ax) := k1.cell 0
  have c1_1 : U2.cell? ⟨w.heap.size, 1, none⟩ = some (.int .i64 ay) := k1.cell 1
  have c1_2 : U2.cell? ⟨w.heap.size, 2, none⟩ = some (.int .i64 bx) := k1.cell 2
  have c1_3 : U2.cell? ⟨w.heap.size, 3, none⟩ = some (.int .i64 b_y) := k1.cell 3
  have l1 := k1.lt
  have c2_0 : U2.cell? ⟨(w.heap.size + 1), 0, none⟩ = some (.int .i64 cx) := k2.cell 0
  have c2_1 : U2.cell? ⟨(w.heap.size + 1), 1, none⟩ = some (.int .i64 cy) := k2.cell 1
  have c2_2 : U2.cell? ⟨(w.heap.size + 1), 2, none⟩ = some (.int .i64 dx) := k2.cell 2
  have c2_3 : U2.cell? ⟨(w.heap.size + 1), 3, none⟩ = some (.int .i64 dy) := k2.cell 3
  have l2 := k2.lt
  have l2_0 : w.heap.size < U2.heap.size := by have := k2.lt; omega
  go_wp2_with fail
  clear c1_0 c1_1 c1_2 c1_3 l1 c2_0 c2_1 c2_2 c2_3 l2 l2_0
  first | refine calls_w ?_ | refine name_world ?_ | refine list_world ?_ | refine post_world ?_
  intro V3 hV3
  have D1 := Lib.hid k1.lt
  have D2 := Lib.hid k2.lt
  have D3 := Lib.hid hb0.size
  have hn : Below U2.heap.size U2 V3 := by rw [hV3]; exact below_a1 _ _
  have nk1 := k1.of hn
  have nk2 := k2.of hn
  have nhb0 := hb0.trans (hn.mono hb0.size)
  clear hn
  have k3 : Blk V3 U2.heap.size #[.int .u64 (wd0 0), .int .u64 (wd1 0), .int .u64 (wd2 0), .int .u64 (wd3 0), .int .u64 (wd0 0), .int .u64 (wd1 0), .int .u64 (wd2 0), .int .u64 (wd3 0), .int .u64 (wd0 0), .int .u64 (wd1 0), .int .u64 (wd2 0), .int .u64 (wd3 0)] 67 := by rw [hV3]; exact (Blk.new _ _ _)
  clear k1 k2
  clear hb0
  clear hV3
  have k1 := nk1
  clear nk1
  have k2 := nk2
  clear nk2
  have hb0 := nhb0
  clear nhb0
  refine (Meet_is cx cy dx dy ax ay bx b_y 0 0 0 0 HP4.out HP8.out HP9.out HP10.out _icx _icy _idx _idy _iax _iay _ibx _ib_y  _).mono ?_
  rintro e U4 ⟨rfl, hn⟩
  replace k1 := k1.of hn
  replace k2 := k2.of hn
  replace k3 := k3.of hn
  replace hb0 := hb0.trans (hn.mono hb0.size)
  clear hn
  have c1_0 : U4.cell? ⟨w.heap.size, 0, none⟩ = some (.int .i64 ax) := k1.cell 0
  have c1_1 : U4.cell? ⟨w.heap.size, 1, none⟩ = some (.int .i64 ay) := k1.cell 1
  have c1_2 : U4.cell? ⟨w.heap.size, 2, none⟩ = some (.int .i64 bx) := k1.cell 2
  have c1_3 : U4.cell? ⟨w.heap.size, 3, none⟩ = some (.int .i64 b_y) := k1.cell 3
  have l1 := k1.lt
  go_wp2_with fail
  clear c1_0 c1_1 c1_2 c1_3 l1
  first | refine calls_w ?_ | refine name_world ?_ | refine list_world ?_ | refine post_world ?_
  intro V5 hV5
  have D4 := Lib.hid k1.lt
  have D5 := Lib.hid k2.lt
  have D6 := Lib.hid k3.lt
  have D7 := Lib.hid hb0.size
  have hn : Below U4.heap.size U4 V5 := by rw [hV5]; exact below_a1 _ _
  have nk1 := k1.of hn
  have nk2 := k2.of hn
  have nk3 := k3.of hn
  have nhb0 := hb0.trans (hn.mono hb0.size)
  clear hn
  have k4 : Blk V5 U4.heap.size #[.int .u64 (wd0 0), .int .u64 (wd1 0), .int .u64 (wd2 0), .int .u64 (wd3 0), .int .u64 (wd0 0), .int .u64 (wd1 0), .int .u64 (wd2 0), .int .u64 (wd3 0), .int .u64 (wd0 0), .int .u64 (wd1 0), .int .u64 (wd2 0), .int .u64 (wd3 0)] 67 := by rw [hV5]; exact (Blk.new _ _ _)
  clear k1 k2 k3
  clear hb0
  clear hV5
  have k1 := nk1
  clear nk1
  have k2 := nk2
  clear nk2
  have k3 := nk3
  clear nk3
  have hb0 := nhb0
  clear nhb0
  refine (cright_is ax ay bx b_y true HP0.out _iax _iay _ibx _ib_y  _).mono ?_
  rintro e U6 ⟨rfl, hn⟩
  replace k1 := k1.of hn
  replace k2 := k2.of hn
  replace k3 := k3.of hn
  replace k4 := k4.of hn
  replace hb0 := hb0.trans (hn.mono hb0.size)
  clear hn
  have c2_0 : U6.cell? ⟨(w.heap.size + 1), 0, none⟩ = some (.int .i64 cx) := k2.cell 0
  have c2_1 : U6.cell? ⟨(w.heap.size + 1), 1, none⟩ = some (.int .i64 cy) := k2.cell 1
  have c2_2 : U6.cell? ⟨(w.heap.size + 1), 2, none⟩ = some (.int .i64 dx) := k2.cell 2
  have c2_3 : U6.cell? ⟨(w.heap.size + 1), 3, none⟩ = some (.int .i64 dy) := k2.cell 3
  have l2 := k2.lt
  go_wp2_with fail
  clear c2_0 c2_1 c2_2 c2_3 l2
  refine (cright_is cx cy dx dy false HP2.out _icx _icy _idx _idy  _).mono ?_
  rintro e U7 ⟨rfl, hn⟩
  replace k1 := k1.of hn
  replace k2 := k2.of hn
  replace k3 := k3.of hn
  replace k4 := k4.of hn
  replace hb0 := hb0.trans (hn.mono hb0.size)
  clear hn
  go_wp2_with fail
  have c1_0 : U7.cell? ⟨w.heap.size, 0, none⟩ = some (.int .i64 ax) := k1.cell 0
  have c1_1 : U7.cell? ⟨w.heap.size, 1, none⟩ = some (.int .i64 ay) := k1.cell 1
  have c1_2 : U7.cell? ⟨w.heap.size, 2, none⟩ = some (.int .i64 bx) := k1.cell 2
  have c1_3 : U7.cell? ⟨w.heap.size, 3, none⟩ = some (.int .i64 b_y) := k1.cell 3
  have l1 := k1.lt
  have Kk1 := Lib.hid k1
  clear k1
  have Kk2 := Lib.hid k2
  clear k2
  have Kk3 := Lib.hid k3
  clear k3
  have Kk4 := Lib.hid k4
  clear k4
  refine wp_region_up U7.heap.size 12 [(true, 0), (true, 1), (true, 2), (true, 3), (true, 4), (true, 5), (true, 6), (true, 7), (true, 8), (true, 9), (true, 11), (false, 10)] (by kernel_rfl) (by kernel_rfl) (fun _ _ d _ _ h => by cases d <;> exact h) ?_
  have hb : Below U7.heap.size U7 U7.drew := (Below.refl _ _).drew
  iterate 11
    refine wpS_takeL rfl rfl ?_
    go_big_quiet_step (rfl)
    refine wpQuiet_nil ?_
  refine wpS_doL rfl ?_
  intro K hK
  go_wp2_with ((go_at_call 53; (with_reducible refine (SegRight_is ax ay bx b_y true HP1.out _iax _iay _ibx _ib_y  _).mono ?_); rintro e w2 ⟨rfl, hn⟩))
  try replace hb := hb.trans (hn.mono hb.size)
  refine hK.out _ _ (up_iff.2 hb) ?_
  clear hK K
  try clear hn
  refine wpS_nil ?_
  simp only [List.drop_succ_cons, List.drop_zero]
  first | refine calls_w ?_ | refine name_world ?_ | refine list_world ?_ | refine post_world ?_
  intro U8 hU8
  first | (subst hU8; have u_ := U8; clear u_) | (rw [← hU8] at hb; clear hU8)
  clear c1_0 c1_1 c1_2 c1_3 l1
  have k1 := Kk1.out.of hb
  clear Kk1
  have k2 := Kk2.out.of hb
  clear Kk2
  have k3 := Kk3.out.of hb
  clear Kk3
  have k4 := Kk4.out.of hb
  clear Kk4
  replace hb0 := hb0.trans (hb.mono hb0.size)
  clear hb
  go_wp2_with fail
  refine (cright_is ax ay bx b_y true HP0.out _iax _iay _ibx _ib_y  _).mono ?_
  rintro e U9 ⟨rfl, hn⟩
  replace k1 := k1.of hn
  replace k2 := k2.of hn
  replace k3 := k3.of hn
  replace k4 := k4.of hn
  replace hb0 := hb0.trans (hn.mono hb0.size)
  clear hn
  have c3_0 : U9.cell? ⟨U2.heap.size, 0, none⟩ = some (.int .u64 (wd0 0)) := k3.cell 0
  have c3_1 : U9.cell? ⟨U2.heap.size, 1, none⟩ = some (.int .u64 (wd1 0)) := k3.cell 1
  have c3_2 : U9.cell? ⟨U2.heap.size, 2, none⟩ = some (.int .u64 (wd2 0)) := k3.cell 2
  have c3_3 : U9.cell? ⟨U2.heap.size, 3, none⟩ = some (.int .u64 (wd3 0)) := k3.cell 3
  have c3_4 : U9.cell? ⟨U2.heap.size, 4, none⟩ = some (.int .u64 (wd0 0)) := k3.cell 4
  have c3_5 : U9.cell? ⟨U2.heap.size, 5, none⟩ = some (.int .u64 (wd1 0)) := k3.cell 5
  have c3_6 : U9.cell? ⟨U2.heap.size, 6, none⟩ = some (.int .u64 (wd2 0)) := k3.cell 6
  have c3_7 : U9.cell? ⟨U2.heap.size, 7, none⟩ = some (.int .u64 (wd3 0)) := k3.cell 7
  have c3_8 : U9.cell? ⟨U2.heap.size, 8, none⟩ = some (.int .u64 (wd0 0)) := k3.cell 8
  have c3_9 : U9.cell? ⟨U2.heap.size, 9, none⟩ = some (.int .u64 (wd1 0)) := k3.cell 9
  have c3_10 : U9.cell? ⟨U2.heap.size, 10, none⟩ = some (.int .u64 (wd2 0)) := k3.cell 10
  have c3_11 : U9.cell? ⟨U2.heap.size, 11, none⟩ = some (.int .u64 (wd3 0)) := k3.cell 11
  have l3 := k3.lt
  have c4_0 : U9.cell? ⟨U4.heap.size, 0, none⟩ = some (.int .u64 (wd0 0)) := k4.cell 0
  have c4_1 : U9.cell? ⟨U4.heap.size, 1, none⟩ = some (.int .u64 (wd1 0)) := k4.cell 1
  have c4_2 : U9.cell? ⟨U4.heap.size, 2, none⟩ = some (.int .u64 (wd2 0)) := k4.cell 2
  have c4_3 : U9.cell? ⟨U4.heap.size, 3, none⟩ = some (.int .u64 (wd3 0)) := k4.cell 3
  have c4_4 : U9.cell? ⟨U4.heap.size, 4, none⟩ = some (.int .u64 (wd0 0)) := k4.cell 4
  have c4_5 : U9.cell? ⟨U4.heap.size, 5, none⟩ = some (.int .u64 (wd1 0)) := k4.cell 5
  have c4_6 : U9.cell? ⟨U4.heap.size, 6, none⟩ = some (.int .u64 (wd2 0)) := k4.cell 6
  have c4_7 : U9.cell? ⟨U4.heap.size, 7, none⟩ = some (.int .u64 (wd3 0)) := k4.cell 7
  have c4_8 : U9.cell? ⟨U4.heap.size, 8, none⟩ = some (.int .u64 (wd0 0)) := k4.cell 8
  have c4_9 : U9.cell? ⟨U4.heap.size, 9, none⟩ = some (.int .u64 (wd1 0)) := k4.cell 9
  have c4_10 : U9.cell? ⟨U4.heap.size, 10, none⟩ = some (.int .u64 (wd2 0)) := k4.cell 10
  have c4_11 : U9.cell? ⟨U4.heap.size, 11, none⟩ = some (.int .u64 (wd3 0)) := k4.cell 11
  have l4 := k4.lt
  go_wp2_with fail
  clear c3_0 c3_1 c3_2 c3_3 c3_4 c3_5 c3_6 c3_7 c3_8 c3_9 c3_10 c3_11 l3 c4_0 c4_1 c4_2 c4_3 c4_4 c4_5 c4_6 c4_7 c4_8 c4_9 c4_10 c4_11 l4
  refine (cawake_any _).mono ?_
  rintro e U10 ⟨rfl, hn⟩
  replace k1 := k1.of hn
  replace k2 := k2.of hn
  replace k3 := k3.of hn
  replace k4 := k4.of hn
  replace hb0 := hb0.trans (hn.mono hb0.size)
  clear hn
  go_wp2
  first | go_ret | go_ret2
  exact ⟨by first | rfl | (simp; done) | (simp; assumption), hb0⟩

set_option maxRecDepth 100000 in
set_option maxHeartbeats 4000000 in

theorem CMeets_3 (ax : Int) (ay : Int) (bx : Int) (b_y : Int) (cx : Int) (cy : Int) (dx : Int) (dy : Int) (k : Int)   (hP0 : crR ax ay bx b_y = true) (hP1 : sgR ax ay bx b_y = true) (hP2 : crR cx cy dx dy = true) (hP3 : mtk ax ay bx b_y cx cy dx dy = k) (hP4 : mtk cx cy dx dy ax ay bx b_y = k) (hP5 : rmt ax ay bx b_y cx cy dx dy = k) (hP6 : (k == 1) = false) (hP7 : mtx ax ay bx b_y cx cy dx dy = 0) (hP8 : mty ax ay bx b_y cx cy dx dy = 0) (hP9 : mtw ax ay bx b_y cx cy dx dy = 0) (hP10 : mtx cx cy dx dy ax ay bx b_y = 0) (hP11 : mty cx cy dx dy ax ay bx b_y = 0) (hP12 : mtw cx cy dx dy ax ay bx b_y = 0) (hP13 : crfx ax ay = ax) (hP14 : crfy ax ay = ay) (hP15 : crfx bx b_y = bx) (hP16 : crfy bx b_y = b_y) (hP17 : crfx cx cy = cx) (hP18 : crfy cx cy = cy) (hP19 : crfx dx dy = dx) (hP20 : crfy dx dy = dy) (_iax : In64 ax) (_iay : In64 ay) (_ibx : In64 bx) (_ib_y : In64 b_y) (_icx : In64 cx) (_icy : In64 cy) (_idx : In64 dx) (_idy : In64 dy)  (w : World)  :
    Calls Try.prog 10 #[.agg #[.int .i64 ax, .int .i64 ay, .int .i64 bx, .int .i64 b_y], .agg #[.int .i64 cx, .int .i64 cy, .int .i64 dx, .int .i64 dy]] w fun e w' => e = .returned (.bool true) ∧ Below w.heap.size w w' := by

  have HP0 := Lib.hid hP0
  clear hP0
  have HP1 := Lib.hid hP1
  clear hP1
  have HP2 := Lib.hid hP2
  clear hP2
  have HP3 := Lib.hid hP3
  clear hP3
  have HP4 := Lib.hid hP4
  clear hP4
  have HP5 := Lib.hid hP5
  clear hP5
  have nP6 : ¬ k = 1 := by simpa using hP6
  have HP7 := Lib.hid hP7
  clear hP7
  have HP8 := Lib.hid hP8
  clear hP8
  have HP9 := Lib.hid hP9
  clear hP9
  have HP10 := Lib.hid hP10
  clear hP10
  have HP11 := Lib.hid hP11
  clear hP11
  have HP12 := Lib.hid hP12
  clear hP12
  have HP13 := Lib.hid hP13
  clear hP13
  have HP14 := Lib.hid hP14
  clear hP14
  have HP15 := Lib.hid hP15
  clear hP15
  have HP16 := Lib.hid hP16
  clear hP16
  have HP17 := Lib.hid hP17
  clear hP17
  have HP18 := Lib.hid hP18
  clear hP18
  have HP19 := Lib.hid hP19
  clear hP19
  have HP20 := Lib.hid hP20
  clear hP20
  go_enter Try.func10, Try.ntmps10
  go_wp2_with fail
  first | refine calls_w ?_ | refine name_world ?_ | refine list_world ?_ | refine post_world ?_
  intro V1 hV1
  have hn : Below w.heap.size w V1 := by rw [hV1]; exact below_a2 _ _ _
  have nhb0 := hn
  have k1 : Blk V1 w.heap.size #[.int .i64 ax, .int .i64 ay, .int .i64 bx, .int .i64 b_y] 50 := by rw [hV1]; exact ((Blk.new _ _ _).alloc _)
  have k2 : Blk V1 (w.heap.size + 1) #[.int .i64 cx, .int .i64 cy, .int .i64 dx, .int .i64 dy] 50 := by rw [hV1]; exact (Blk.new1 _ _ _ _)
  clear hV1
  have hb0 := nhb0
  clear nhb0
  refine (Meet_is ax ay bx b_y cx cy dx dy k 0 0 0 HP3.out HP7.out HP8.out HP9.out _iax _iay _ibx _ib_y _icx _icy _idx _idy  _).mono ?_
  rintro e U2 ⟨rfl, hn⟩
  replace k1 := k1.of hn
  replace k2 := k2.of hn
  replace hb0 := hb0.trans (hn.mono hb0.size)
  clear hn
  have c1_0 : U2.cell? ⟨w.heap.size, 0, none⟩ = some (.int .i64 ax) := k1.cell 0
  have c1_1 : U2.cell? ⟨w.heap.size, 1, none⟩ = some (.int .i64 ay) := k1.cell 1
  have c1_2 : U2.cell? ⟨w.heap.size, 2, none⟩ = some (.int .i64 bx) := k1.cell 2
  have c1_3 : U2.cell? ⟨w.heap.size, 3, none⟩ = some (.int .i64 b_y) := k1.cell 3
  have l1 := k1.lt
  have c2_0 : U2.cell? ⟨(w.heap.size + 1), 0, none⟩ = some (.int .i64 cx) := k2.cell 0
  have c2_1 : U2.cell? ⟨(w.heap.size + 1), 1, none⟩ = some (.int .i64 cy) := k2.cell 1
  have c2_2 : U2.cell? ⟨(w.heap.size + 1), 2, none⟩ = some (.int .i64 dx) := k2.cell 2
  have c2_3 : U2.cell? ⟨(w.heap.size + 1), 3, none⟩ = some (.int .i64 dy) := k2.cell 3
  have l2 := k2.lt
  have l2_0 : w.heap.size < U2.heap.size := by have := k2.lt; omega
  go_wp2_with fail
  clear c1_0 c1_1 c1_2 c1_3 l1 c2_0 c2_1 c2_2 c2_3 l2 l2_0
  first | refine calls_w ?_ | refine name_world ?_ | refine list_world ?_ | refine post_world ?_
  intro V3 hV3
  have D1 := Lib.hid k1.lt
  have D2 := Lib.hid k2.lt
  have D3 := Lib.hid hb0.size
  have hn : Below U2.heap.size U2 V3 := by rw [hV3]; exact below_a1 _ _
  have nk1 := k1.of hn
  have nk2 := k2.of hn
  have nhb0 := hb0.trans (hn.mono hb0.size)
  clear hn
  have k3 : Blk V3 U2.heap.size #[.int .u64 (wd0 0), .int .u64 (wd1 0), .int .u64 (wd2 0), .int .u64 (wd3 0), .int .u64 (wd0 0), .int .u64 (wd1 0), .int .u64 (wd2 0), .int .u64 (wd3 0), .int .u64 (wd0 0), .int .u64 (wd1 0), .int .u64 (wd2 0), .int .u64 (wd3 0)] 67 := by rw [hV3]; exact (Blk.new _ _ _)
  clear k1 k2
  clear hb0
  clear hV3
  have k1 := nk1
  clear nk1
  have k2 := nk2
  clear nk2
  have hb0 := nhb0
  clear nhb0
  refine (Meet_is cx cy dx dy ax ay bx b_y k 0 0 0 HP4.out HP10.out HP11.out HP12.out _icx _icy _idx _idy _iax _iay _ibx _ib_y  _).mono ?_
  rintro e U4 ⟨rfl, hn⟩
  replace k1 := k1.of hn
  replace k2 := k2.of hn
  replace k3 := k3.of hn
  replace hb0 := hb0.trans (hn.mono hb0.size)
  clear hn
  have c1_0 : U4.cell? ⟨w.heap.size, 0, none⟩ = some (.int .i64 ax) := k1.cell 0
  have c1_1 : U4.cell? ⟨w.heap.size, 1, none⟩ = some (.int .i64 ay) := k1.cell 1
  have c1_2 : U4.cell? ⟨w.heap.size, 2, none⟩ = some (.int .i64 bx) := k1.cell 2
  have c1_3 : U4.cell? ⟨w.heap.size, 3, none⟩ = some (.int .i64 b_y) := k1.cell 3
  have l1 := k1.lt
  go_wp2_with fail
  clear c1_0 c1_1 c1_2 c1_3 l1
  first | refine calls_w ?_ | refine name_world ?_ | refine list_world ?_ | refine post_world ?_
  intro V5 hV5
  have D4 := Lib.hid k1.lt
  have D5 := Lib.hid k2.lt
  have D6 := Lib.hid k3.lt
  have D7 := Lib.hid hb0.size
  have hn : Below U4.heap.size U4 V5 := by rw [hV5]; exact below_a1 _ _
  have nk1 := k1.of hn
  have nk2 := k2.of hn
  have nk3 := k3.of hn
  have nhb0 := hb0.trans (hn.mono hb0.size)
  clear hn
  have k4 : Blk V5 U4.heap.size #[.int .u64 (wd0 0), .int .u64 (wd1 0), .int .u64 (wd2 0), .int .u64 (wd3 0), .int .u64 (wd0 0), .int .u64 (wd1 0), .int .u64 (wd2 0), .int .u64 (wd3 0), .int .u64 (wd0 0), .int .u64 (wd1 0), .int .u64 (wd2 0), .int .u64 (wd3 0)] 67 := by rw [hV5]; exact (Blk.new _ _ _)
  clear k1 k2 k3
  clear hb0
  clear hV5
  have k1 := nk1
  clear nk1
  have k2 := nk2
  clear nk2
  have k3 := nk3
  clear nk3
  have hb0 := nhb0
  clear nhb0
  refine (cright_is ax ay bx b_y true HP0.out _iax _iay _ibx _ib_y  _).mono ?_
  rintro e U6 ⟨rfl, hn⟩
  replace k1 := k1.of hn
  replace k2 := k2.of hn
  replace k3 := k3.of hn
  replace k4 := k4.of hn
  replace hb0 := hb0.trans (hn.mono hb0.size)
  clear hn
  have c2_0 : U6.cell? ⟨(w.heap.size + 1), 0, none⟩ = some (.int .i64 cx) := k2.cell 0
  have c2_1 : U6.cell? ⟨(w.heap.size + 1), 1, none⟩ = some (.int .i64 cy) := k2.cell 1
  have c2_2 : U6.cell? ⟨(w.heap.size + 1), 2, none⟩ = some (.int .i64 dx) := k2.cell 2
  have c2_3 : U6.cell? ⟨(w.heap.size + 1), 3, none⟩ = some (.int .i64 dy) := k2.cell 3
  have l2 := k2.lt
  go_wp2_with fail
  clear c2_0 c2_1 c2_2 c2_3 l2
  refine (cright_is cx cy dx dy true HP2.out _icx _icy _idx _idy  _).mono ?_
  rintro e U7 ⟨rfl, hn⟩
  replace k1 := k1.of hn
  replace k2 := k2.of hn
  replace k3 := k3.of hn
  replace k4 := k4.of hn
  replace hb0 := hb0.trans (hn.mono hb0.size)
  clear hn
  go_wp2_with fail
  have c1_0 : U7.cell? ⟨w.heap.size, 0, none⟩ = some (.int .i64 ax) := k1.cell 0
  have c1_1 : U7.cell? ⟨w.heap.size, 1, none⟩ = some (.int .i64 ay) := k1.cell 1
  have c1_2 : U7.cell? ⟨w.heap.size, 2, none⟩ = some (.int .i64 bx) := k1.cell 2
  have c1_3 : U7.cell? ⟨w.heap.size, 3, none⟩ = some (.int .i64 b_y) := k1.cell 3
  have l1 := k1.lt
  have c2_0 : U7.cell? ⟨(w.heap.size + 1), 0, none⟩ = some (.int .i64 cx) := k2.cell 0
  have c2_1 : U7.cell? ⟨(w.heap.size + 1), 1, none⟩ = some (.int .i64 cy) := k2.cell 1
  have c2_2 : U7.cell? ⟨(w.heap.size + 1), 2, none⟩ = some (.int .i64 dx) := k2.cell 2
  have c2_3 : U7.cell? ⟨(w.heap.size + 1), 3, none⟩ = some (.int .i64 dy) := k2.cell 3
  have l2 := k2.lt
  have Kk1 := Lib.hid k1
  clear k1
  have Kk2 := Lib.hid k2
  clear k2
  have Kk3 := Lib.hid k3
  clear k3
  have Kk4 := Lib.hid k4
  clear k4
  refine wp_region_up U7.heap.size 11 [(true, 0), (true, 1), (true, 3), (true, 4), (true, 6), (true, 7), (true, 9), (true, 10), (false, 2), (false, 5), (false, 8)] (by kernel_rfl) (by kernel_rfl) (fun _ _ d _ _ h => by cases d <;> exact h) ?_
  have hb : Below U7.heap.size U7 U7.drew := (Below.refl _ _).drew
  iterate 8
    refine wpS_takeL rfl rfl ?_
    go_big_quiet_step (rfl)
    refine wpQuiet_nil ?_
  refine wpS_doL rfl ?_
  intro K hK
  go_wp2_with ((first | (go_at_call 52; (with_reducible refine (cref_is ax ay ax ay HP13.out HP14.out _iax _iay  _).mono ?_); rintro e w2 ⟨rfl, hn⟩) | (go_at_call 52; (with_reducible refine (cref_is bx b_y bx b_y HP15.out HP16.out _ibx _ib_y  _).mono ?_); rintro e w2 ⟨rfl, hn⟩) | (go_at_call 52; (with_reducible refine (cref_is cx cy cx cy HP17.out HP18.out _icx _icy  _).mono ?_); rintro e w2 ⟨rfl, hn⟩)))
  replace hb := hb.trans (hn.mono hb.size)
  refine hK.out _ _ (up_iff.2 hb) ?_
  clear hK K
  clear hn
  refine wpS_doL rfl ?_
  intro K hK
  go_wp2_with ((first | (go_at_call 52; (with_reducible refine (cref_is ax ay ax ay HP13.out HP14.out _iax _iay  _).mono ?_); rintro e w2 ⟨rfl, hn⟩) | (go_at_call 52; (with_reducible refine (cref_is bx b_y bx b_y HP15.out HP16.out _ibx _ib_y  _).mono ?_); rintro e w2 ⟨rfl, hn⟩) | (go_at_call 52; (with_reducible refine (cref_is cx cy cx cy HP17.out HP18.out _icx _icy  _).mono ?_); rintro e w2 ⟨rfl, hn⟩)))
  replace hb := hb.trans (hn.mono hb.size)
  refine hK.out _ _ (up_iff.2 hb) ?_
  clear hK K
  clear hn
  refine wpS_doL rfl ?_
  intro K hK
  go_wp2_with ((first | (go_at_call 52; (with_reducible refine (cref_is ax ay ax ay HP13.out HP14.out _iax _iay  _).mono ?_); rintro e w2 ⟨rfl, hn⟩) | (go_at_call 52; (with_reducible refine (cref_is bx b_y bx b_y HP15.out HP16.out _ibx _ib_y  _).mono ?_); rintro e w2 ⟨rfl, hn⟩) | (go_at_call 52; (with_reducible refine (cref_is cx cy cx cy HP17.out HP18.out _icx _icy  _).mono ?_); rintro e w2 ⟨rfl, hn⟩)))
  replace hb := hb.trans (hn.mono hb.size)
  refine hK.out _ _ (up_iff.2 hb) ?_
  clear hK K
  clear hn
  refine wpS_nil ?_
  simp only [List.drop_succ_cons, List.drop_zero]
  first | refine calls_w ?_ | refine name_world ?_ | refine list_world ?_ | refine post_world ?_
  intro U8 hU8
  first | (subst hU8; have u_ := U8; clear u_) | (rw [← hU8] at hb; clear hU8)
  clear c1_0 c1_1 c1_2 c1_3 l1 c2_0 c2_1 c2_2 c2_3 l2
  have k1 := Kk1.out.of hb
  clear Kk1
  have k2 := Kk2.out.of hb
  clear Kk2
  have k3 := Kk3.out.of hb
  clear Kk3
  have k4 := Kk4.out.of hb
  clear Kk4
  replace hb0 := hb0.trans (hb.mono hb0.size)
  clear hb
  go_wp2_with fail
  refine (cref_is dx dy dx dy HP19.out HP20.out _idx _idy  _).mono ?_
  rintro e U9 ⟨rfl, hn⟩
  replace k1 := k1.of hn
  replace k2 := k2.of hn
  replace k3 := k3.of hn
  replace k4 := k4.of hn
  replace hb0 := hb0.trans (hn.mono hb0.size)
  clear hn
  go_wp2_with fail
  refine (rMeet_v ax ay bx b_y cx cy dx dy k HP5.out _).mono ?_
  rintro e U10 ⟨rfl, hn⟩
  replace k1 := k1.of hn
  replace k2 := k2.of hn
  replace k3 := k3.of hn
  replace k4 := k4.of hn
  replace hb0 := hb0.trans (hn.mono hb0.size)
  clear hn
  go_wp2_with fail
  have c1_0 : U10.cell? ⟨w.heap.size, 0, none⟩ = some (.int .i64 ax) := k1.cell 0
  have c1_1 : U10.cell? ⟨w.heap.size, 1, none⟩ = some (.int .i64 ay) := k1.cell 1
  have c1_2 : U10.cell? ⟨w.heap.size, 2, none⟩ = some (.int .i64 bx) := k1.cell 2
  have c1_3 : U10.cell? ⟨w.heap.size, 3, none⟩ = some (.int .i64 b_y) := k1.cell 3
  have l1 := k1.lt
  have Kk1 := Lib.hid k1
  clear k1
  have Kk2 := Lib.hid k2
  clear k2
  have Kk3 := Lib.hid k3
  clear k3
  have Kk4 := Lib.hid k4
  clear k4
  refine wp_region_up U10.heap.size 12 [(true, 0), (true, 1), (true, 2), (true, 3), (true, 4), (true, 5), (true, 6), (true, 7), (true, 8), (true, 9), (true, 11), (false, 10)] (by kernel_rfl) (by kernel_rfl) (fun _ _ d _ _ h => by cases d <;> exact h) ?_
  have hb : Below U10.heap.size U10 U10.drew := (Below.refl _ _).drew
  iterate 11
    refine wpS_takeL rfl rfl ?_
    go_big_quiet_step (rfl)
    refine wpQuiet_nil ?_
  refine wpS_doL rfl ?_
  intro K hK
  go_wp2_with ((go_at_call 53; (with_reducible refine (SegRight_is ax ay bx b_y true HP1.out _iax _iay _ibx _ib_y  _).mono ?_); rintro e w2 ⟨rfl, hn⟩))
  try replace hb := hb.trans (hn.mono hb.size)
  refine hK.out _ _ (up_iff.2 hb) ?_
  clear hK K
  try clear hn
  refine wpS_nil ?_
  simp only [List.drop_succ_cons, List.drop_zero]
  first | refine calls_w ?_ | refine name_world ?_ | refine list_world ?_ | refine post_world ?_
  intro U11 hU11
  first | (subst hU11; have u_ := U11; clear u_) | (rw [← hU11] at hb; clear hU11)
  clear c1_0 c1_1 c1_2 c1_3 l1
  have k1 := Kk1.out.of hb
  clear Kk1
  have k2 := Kk2.out.of hb
  clear Kk2
  have k3 := Kk3.out.of hb
  clear Kk3
  have k4 := Kk4.out.of hb
  clear Kk4
  replace hb0 := hb0.trans (hb.mono hb0.size)
  clear hb
  go_wp2_with fail
  refine (cright_is ax ay bx b_y true HP0.out _iax _iay _ibx _ib_y  _).mono ?_
  rintro e U12 ⟨rfl, hn⟩
  replace k1 := k1.of hn
  replace k2 := k2.of hn
  replace k3 := k3.of hn
  replace k4 := k4.of hn
  replace hb0 := hb0.trans (hn.mono hb0.size)
  clear hn
  have c3_0 : U12.cell? ⟨U2.heap.size, 0, none⟩ = some (.int .u64 (wd0 0)) := k3.cell 0
  have c3_1 : U12.cell? ⟨U2.heap.size, 1, none⟩ = some (.int .u64 (wd1 0)) := k3.cell 1
  have c3_2 : U12.cell? ⟨U2.heap.size, 2, none⟩ = some (.int .u64 (wd2 0)) := k3.cell 2
  have c3_3 : U12.cell? ⟨U2.heap.size, 3, none⟩ = some (.int .u64 (wd3 0)) := k3.cell 3
  have c3_4 : U12.cell? ⟨U2.heap.size, 4, none⟩ = some (.int .u64 (wd0 0)) := k3.cell 4
  have c3_5 : U12.cell? ⟨U2.heap.size, 5, none⟩ = some (.int .u64 (wd1 0)) := k3.cell 5
  have c3_6 : U12.cell? ⟨U2.heap.size, 6, none⟩ = some (.int .u64 (wd2 0)) := k3.cell 6
  have c3_7 : U12.cell? ⟨U2.heap.size, 7, none⟩ = some (.int .u64 (wd3 0)) := k3.cell 7
  have c3_8 : U12.cell? ⟨U2.heap.size, 8, none⟩ = some (.int .u64 (wd0 0)) := k3.cell 8
  have c3_9 : U12.cell? ⟨U2.heap.size, 9, none⟩ = some (.int .u64 (wd1 0)) := k3.cell 9
  have c3_10 : U12.cell? ⟨U2.heap.size, 10, none⟩ = some (.int .u64 (wd2 0)) := k3.cell 10
  have c3_11 : U12.cell? ⟨U2.heap.size, 11, none⟩ = some (.int .u64 (wd3 0)) := k3.cell 11
  have l3 := k3.lt
  have c4_0 : U12.cell? ⟨U4.heap.size, 0, none⟩ = some (.int .u64 (wd0 0)) := k4.cell 0
  have c4_1 : U12.cell? ⟨U4.heap.size, 1, none⟩ = some (.int .u64 (wd1 0)) := k4.cell 1
  have c4_2 : U12.cell? ⟨U4.heap.size, 2, none⟩ = some (.int .u64 (wd2 0)) := k4.cell 2
  have c4_3 : U12.cell? ⟨U4.heap.size, 3, none⟩ = some (.int .u64 (wd3 0)) := k4.cell 3
  have c4_4 : U12.cell? ⟨U4.heap.size, 4, none⟩ = some (.int .u64 (wd0 0)) := k4.cell 4
  have c4_5 : U12.cell? ⟨U4.heap.size, 5, none⟩ = some (.int .u64 (wd1 0)) := k4.cell 5
  have c4_6 : U12.cell? ⟨U4.heap.size, 6, none⟩ = some (.int .u64 (wd2 0)) := k4.cell 6
  have c4_7 : U12.cell? ⟨U4.heap.size, 7, none⟩ = some (.int .u64 (wd3 0)) := k4.cell 7
  have c4_8 : U12.cell? ⟨U4.heap.size, 8, none⟩ = some (.int .u64 (wd0 0)) := k4.cell 8
  have c4_9 : U12.cell? ⟨U4.heap.size, 9, none⟩ = some (.int .u64 (wd1 0)) := k4.cell 9
  have c4_10 : U12.cell? ⟨U4.heap.size, 10, none⟩ = some (.int .u64 (wd2 0)) := k4.cell 10
  have c4_11 : U12.cell? ⟨U4.heap.size, 11, none⟩ = some (.int .u64 (wd3 0)) := k4.cell 11
  have l4 := k4.lt
  go_wp2_with fail
  clear c3_0 c3_1 c3_2 c3_3 c3_4 c3_5 c3_6 c3_7 c3_8 c3_9 c3_10 c3_11 l3 c4_0 c4_1 c4_2 c4_3 c4_4 c4_5 c4_6 c4_7 c4_8 c4_9 c4_10 c4_11 l4
  refine (cawake_any _).mono ?_
  rintro e U13 ⟨rfl, hn⟩
  replace k1 := k1.of hn
  replace k2 := k2.of hn
  replace k3 := k3.of hn
  replace k4 := k4.of hn
  replace hb0 := hb0.trans (hn.mono hb0.size)
  clear hn
  go_wp2
  first | go_ret | go_ret2
  exact ⟨by first | rfl | (simp; done) | (simp; assumption), hb0⟩

theorem alCrL6_0 : AllocRuns Try.prog 72 #[.bool false, .slice none 0 0, .bool false, .slice none 0 0, .bool false, .slice none 0 0] := fun w => by kernel_rfl

set_option maxRecDepth 100000 in
set_option maxHeartbeats 4000000 in

theorem CMeets_4 (ax : Int) (ay : Int) (bx : Int) (b_y : Int) (cx : Int) (cy : Int) (dx : Int) (dy : Int) (px : Int) (py : Int) (pw : Int) (qx : Int) (qy : Int) (qw : Int)   (hP0 : crR ax ay bx b_y = true) (hP1 : sgR ax ay bx b_y = true) (hP2 : crR cx cy dx dy = true) (hP3 : rmt ax ay bx b_y cx cy dx dy = 1) (hP4 : mtk ax ay bx b_y cx cy dx dy = 1) (hP5 : mtx ax ay bx b_y cx cy dx dy = px) (hP6 : mty ax ay bx b_y cx cy dx dy = py) (hP7 : mtw ax ay bx b_y cx cy dx dy = pw) (hP8 : cspx px py pw = px) (hP9 : cspy px py pw = py) (hP10 : cspv px py pw = pw) (hP11 : mtk cx cy dx dy ax ay bx b_y = 1) (hP12 : mtx cx cy dx dy ax ay bx b_y = qx) (hP13 : mty cx cy dx dy ax ay bx b_y = qy) (hP14 : mtw cx cy dx dy ax ay bx b_y = qw) (hP15 : cspx qx qy qw = qx) (hP16 : cspy qx qy qw = qy) (hP17 : cspv qx qy qw = qw) (hP18 : rspR px py pw = true) (hP19 : rspR qx qy qw = true) (hP20 : rspC px py pw qx qy qw = 0) (hP21 : rhld ax ay bx b_y px py pw = true) (hP22 : rhld cx cy dx dy px py pw = true) (hP23 : crfx ax ay = ax) (hP24 : crfy ax ay = ay) (hP25 : crfx bx b_y = bx) (hP26 : crfy bx b_y = b_y) (hP27 : crfx cx cy = cx) (hP28 : crfy cx cy = cy) (hP29 : crfx dx dy = dx) (hP30 : crfy dx dy = dy) (_ipx : InI px) (_ipy : InI py) (_ipw : InI pw) (_iqx : InI qx) (_iqy : InI qy) (_iqw : InI qw) (_iax : In64 ax) (_iay : In64 ay) (_ibx : In64 bx) (_ib_y : In64 b_y) (_icx : In64 cx) (_icy : In64 cy) (_idx : In64 dx) (_idy : In64 dy)  (w : World)  :
    Calls Try.prog 10 #[.agg #[.int .i64 ax, .int .i64 ay, .int .i64 bx, .int .i64 b_y], .agg #[.int .i64 cx, .int .i64 cy, .int .i64 dx, .int .i64 dy]] w fun e w' => e = .returned (.bool true) ∧ Below w.heap.size w w' := by

  have HP0 := Lib.hid hP0
  clear hP0
  have HP1 := Lib.hid hP1
  clear hP1
  have HP2 := Lib.hid hP2
  clear hP2
  have HP3 := Lib.hid hP3
  clear hP3
  have HP4 := Lib.hid hP4
  clear hP4
  have HP5 := Lib.hid hP5
  clear hP5
  have HP6 := Lib.hid hP6
  clear hP6
  have HP7 := Lib.hid hP7
  clear hP7
  have HP8 := Lib.hid hP8
  clear hP8
  have HP9 := Lib.hid hP9
  clear hP9
  have HP10 := Lib.hid hP10
  clear hP10
  have HP11 := Lib.hid hP11
  clear hP11
  have HP12 := Lib.hid hP12
  clear hP12
  have HP13 := Lib.hid hP13
  clear hP13
  have HP14 := Lib.hid hP14
  clear hP14
  have HP15 := Lib.hid hP15
  clear hP15
  have HP16 := Lib.hid hP16
  clear hP16
  have HP17 := Lib.hid hP17
  clear hP17
  have HP18 := Lib.hid hP18
  clear hP18
  have HP19 := Lib.hid hP19
  clear hP19
  have HP20 := Lib.hid hP20
  clear hP20
  have HP21 := Lib.hid hP21
  clear hP21
  have HP22 := Lib.hid hP22
  clear hP22
  have HP23 := Lib.hid hP23
  clear hP23
  have HP24 := Lib.hid hP24
  clear hP24
  have HP25 := Lib.hid hP25
  clear hP25
  have HP26 := Lib.hid hP26
  clear hP26
  have HP27 := Lib.hid hP27
  clear hP27
  have HP28 := Lib.hid hP28
  clear hP28
  have HP29 := Lib.hid hP29
  clear hP29
  have HP30 := Lib.hid hP30
  clear hP30
  go_enter Try.func10, Try.ntmps10
  go_wp2_with fail
  first | refine calls_w ?_ | refine name_world ?_ | refine list_world ?_ | refine post_world ?_
  intro V1 hV1
  have hn : Below w.heap.size w V1 := by rw [hV1]; exact below_a2 _ _ _
  have nhb0 := hn
  have k1 : Blk V1 w.heap.size #[.int .i64 ax, .int .i64 ay, .int .i64 bx, .int .i64 b_y] 50 := by rw [hV1]; exact ((Blk.new _ _ _).alloc _)
  have k2 : Blk V1 (w.heap.size + 1) #[.int .i64 cx, .int .i64 cy, .int .i64 dx, .int .i64 dy] 50 := by rw [hV1]; exact (Blk.new1 _ _ _ _)
  clear hV1
  have hb0 := nhb0
  clear nhb0
  refine (Meet_is ax ay bx b_y cx cy dx dy 1 px py pw HP4.out HP5.out HP6.out HP7.out _iax _iay _ibx _ib_y _icx _icy _idx _idy  _).mono ?_
  rintro e U2 ⟨rfl, hn⟩
  replace k1 := k1.of hn
  replace k2 := k2.of hn
  replace hb0 := hb0.trans (hn.mono hb0.size)
  clear hn
  have c1_0 : U2.cell? ⟨w.heap.size, 0, none⟩ = some (.int .i64 ax) := k1.cell 0
  have c1_1 : U2.cell? ⟨w.heap.size, 1, none⟩ = some (.int .i64 ay) := k1.cell 1
  have c1_2 : U2.cell? ⟨w.heap.size, 2, none⟩ = some (.int .i64 bx) := k1.cell 2
  have c1_3 : U2.cell? ⟨w.heap.size, 3, none⟩ = some (.int .i64 b_y) := k1.cell 3
  have l1 := k1.lt
  have c2_0 : U2.cell? ⟨(w.heap.size + 1), 0, none⟩ = some (.int .i64 cx) := k2.cell 0
  have c2_1 : U2.cell? ⟨(w.heap.size + 1), 1, none⟩ = some (.int .i64 cy) := k2.cell 1
  have c2_2 : U2.cell? ⟨(w.heap.size + 1), 2, none⟩ = some (.int .i64 dx) := k2.cell 2
  have c2_3 : U2.cell? ⟨(w.heap.size + 1), 3, none⟩ = some (.int .i64 dy) := k2.cell 3
  have l2 := k2.lt
  have l2_0 : w.heap.size < U2.heap.size := by have := k2.lt; omega
  go_wp2_with fail
  clear c1_0 c1_1 c1_2 c1_3 l1 c2_0 c2_1 c2_2 c2_3 l2 l2_0
  first | refine calls_w ?_ | refine name_world ?_ | refine list_world ?_ | refine post_world ?_
  intro V3 hV3
  have D1 := Lib.hid k1.lt
  have D2 := Lib.hid k2.lt
  have D3 := Lib.hid hb0.size
  have hn : Below U2.heap.size U2 V3 := by rw [hV3]; exact below_a1 _ _
  have nk1 := k1.of hn
  have nk2 := k2.of hn
  have nhb0 := hb0.trans (hn.mono hb0.size)
  clear hn
  have k3 : Blk V3 U2.heap.size #[.int .u64 (wd0 px), .int .u64 (wd1 px), .int .u64 (wd2 px), .int .u64 (wd3 px), .int .u64 (wd0 py), .int .u64 (wd1 py), .int .u64 (wd2 py), .int .u64 (wd3 py), .int .u64 (wd0 pw), .int .u64 (wd1 pw), .int .u64 (wd2 pw), .int .u64 (wd3 pw)] 67 := by rw [hV3]; exact (Blk.new _ _ _)
  clear k1 k2
  clear hb0
  clear hV3
  have k1 := nk1
  clear nk1
  have k2 := nk2
  clear nk2
  have hb0 := nhb0
  clear nhb0
  refine (Meet_is cx cy dx dy ax ay bx b_y 1 qx qy qw HP11.out HP12.out HP13.out HP14.out _icx _icy _idx _idy _iax _iay _ibx _ib_y  _).mono ?_
  rintro e U4 ⟨rfl, hn⟩
  replace k1 := k1.of hn
  replace k2 := k2.of hn
  replace k3 := k3.of hn
  replace hb0 := hb0.trans (hn.mono hb0.size)
  clear hn
  have c1_0 : U4.cell? ⟨w.heap.size, 0, none⟩ = some (.int .i64 ax) := k1.cell 0
  have c1_1 : U4.cell? ⟨w.heap.size, 1, none⟩ = some (.int .i64 ay) := k1.cell 1
  have c1_2 : U4.cell? ⟨w.heap.size, 2, none⟩ = some (.int .i64 bx) := k1.cell 2
  have c1_3 : U4.cell? ⟨w.heap.size, 3, none⟩ = some (.int .i64 b_y) := k1.cell 3
  have l1 := k1.lt
  go_wp2_with fail
  clear c1_0 c1_1 c1_2 c1_3 l1
  first | refine calls_w ?_ | refine name_world ?_ | refine list_world ?_ | refine post_world ?_
  intro V5 hV5
  have D4 := Lib.hid k1.lt
  have D5 := Lib.hid k2.lt
  have D6 := Lib.hid k3.lt
  have D7 := Lib.hid hb0.size
  have hn : Below U4.heap.size U4 V5 := by rw [hV5]; exact below_a1 _ _
  have nk1 := k1.of hn
  have nk2 := k2.of hn
  have nk3 := k3.of hn
  have nhb0 := hb0.trans (hn.mono hb0.size)
  clear hn
  have k4 : Blk V5 U4.heap.size #[.int .u64 (wd0 qx), .int .u64 (wd1 qx), .int .u64 (wd2 qx), .int .u64 (wd3 qx), .int .u64 (wd0 qy), .int .u64 (wd1 qy), .int .u64 (wd2 qy), .int .u64 (wd3 qy), .int .u64 (wd0 qw), .int .u64 (wd1 qw), .int .u64 (wd2 qw), .int .u64 (wd3 qw)] 67 := by rw [hV5]; exact (Blk.new _ _ _)
  clear k1 k2 k3
  clear hb0
  clear hV5
  have k1 := nk1
  clear nk1
  have k2 := nk2
  clear nk2
  have k3 := nk3
  clear nk3
  have hb0 := nhb0
  clear nhb0
  refine (cright_is ax ay bx b_y true HP0.out _iax _iay _ibx _ib_y  _).mono ?_
  rintro e U6 ⟨rfl, hn⟩
  replace k1 := k1.of hn
  replace k2 := k2.of hn
  replace k3 := k3.of hn
  replace k4 := k4.of hn
  replace hb0 := hb0.trans (hn.mono hb0.size)
  clear hn
  have c2_0 : U6.cell? ⟨(w.heap.size + 1), 0, none⟩ = some (.int .i64 cx) := k2.cell 0
  have c2_1 : U6.cell? ⟨(w.heap.size + 1), 1, none⟩ = some (.int .i64 cy) := k2.cell 1
  have c2_2 : U6.cell? ⟨(w.heap.size + 1), 2, none⟩ = some (.int .i64 dx) := k2.cell 2
  have c2_3 : U6.cell? ⟨(w.heap.size + 1), 3, none⟩ = some (.int .i64 dy) := k2.cell 3
  have l2 := k2.lt
  go_wp2_with fail
  clear c2_0 c2_1 c2_2 c2_3 l2
  refine (cright_is cx cy dx dy true HP2.out _icx _icy _idx _idy  _).mono ?_
  rintro e U7 ⟨rfl, hn⟩
  replace k1 := k1.of hn
  replace k2 := k2.of hn
  replace k3 := k3.of hn
  replace k4 := k4.of hn
  replace hb0 := hb0.trans (hn.mono hb0.size)
  clear hn
  go_wp2_with fail
  have c1_0 : U7.cell? ⟨w.heap.size, 0, none⟩ = some (.int .i64 ax) := k1.cell 0
  have c1_1 : U7.cell? ⟨w.heap.size, 1, none⟩ = some (.int .i64 ay) := k1.cell 1
  have c1_2 : U7.cell? ⟨w.heap.size, 2, none⟩ = some (.int .i64 bx) := k1.cell 2
  have c1_3 : U7.cell? ⟨w.heap.size, 3, none⟩ = some (.int .i64 b_y) := k1.cell 3
  have l1 := k1.lt
  have c2_0 : U7.cell? ⟨(w.heap.size + 1), 0, none⟩ = some (.int .i64 cx) := k2.cell 0
  have c2_1 : U7.cell? ⟨(w.heap.size + 1), 1, none⟩ = some (.int .i64 cy) := k2.cell 1
  have c2_2 : U7.cell? ⟨(w.heap.size + 1), 2, none⟩ = some (.int .i64 dx) := k2.cell 2
  have c2_3 : U7.cell? ⟨(w.heap.size + 1), 3, none⟩ = some (.int .i64 dy) := k2.cell 3
  have l2 := k2.lt
  have Kk1 := Lib.hid k1
  clear k1
  have Kk2 := Lib.hid k2
  clear k2
  have Kk3 := Lib.hid k3
  clear k3
  have Kk4 := Lib.hid k4
  clear k4
  refine wp_region_up U7.heap.size 11 [(true, 0), (true, 1), (true, 3), (true, 4), (true, 6), (true, 7), (true, 9), (true, 10), (false, 2), (false, 5), (false, 8)] (by kernel_rfl) (by kernel_rfl) (fun _ _ d _ _ h => by cases d <;> exact h) ?_
  have hb : Below U7.heap.size U7 U7.drew := (Below.refl _ _).drew
  iterate 8
    refine wpS_takeL rfl rfl ?_
    go_big_quiet_step (rfl)
    refine wpQuiet_nil ?_
  refine wpS_doL rfl ?_
  intro K hK
  go_wp2_with ((first | (go_at_call 52; (with_reducible refine (cref_is ax ay ax ay HP23.out HP24.out _iax _iay  _).mono ?_); rintro e w2 ⟨rfl, hn⟩) | (go_at_call 52; (with_reducible refine (cref_is bx b_y bx b_y HP25.out HP26.out _ibx _ib_y  _).mono ?_); rintro e w2 ⟨rfl, hn⟩) | (go_at_call 52; (with_reducible refine (cref_is cx cy cx cy HP27.out HP28.out _icx _icy  _).mono ?_); rintro e w2 ⟨rfl, hn⟩)))
  replace hb := hb.trans (hn.mono hb.size)
  refine hK.out _ _ (up_iff.2 hb) ?_
  clear hK K
  clear hn
  refine wpS_doL rfl ?_
  intro K hK
  go_wp2_with ((first | (go_at_call 52; (with_reducible refine (cref_is ax ay ax ay HP23.out HP24.out _iax _iay  _).mono ?_); rintro e w2 ⟨rfl, hn⟩) | (go_at_call 52; (with_reducible refine (cref_is bx b_y bx b_y HP25.out HP26.out _ibx _ib_y  _).mono ?_); rintro e w2 ⟨rfl, hn⟩) | (go_at_call 52; (with_reducible refine (cref_is cx cy cx cy HP27.out HP28.out _icx _icy  _).mono ?_); rintro e w2 ⟨rfl, hn⟩)))
  replace hb := hb.trans (hn.mono hb.size)
  refine hK.out _ _ (up_iff.2 hb) ?_
  clear hK K
  clear hn
  refine wpS_doL rfl ?_
  intro K hK
  go_wp2_with ((first | (go_at_call 52; (with_reducible refine (cref_is ax ay ax ay HP23.out HP24.out _iax _iay  _).mono ?_); rintro e w2 ⟨rfl, hn⟩) | (go_at_call 52; (with_reducible refine (cref_is bx b_y bx b_y HP25.out HP26.out _ibx _ib_y  _).mono ?_); rintro e w2 ⟨rfl, hn⟩) | (go_at_call 52; (with_reducible refine (cref_is cx cy cx cy HP27.out HP28.out _icx _icy  _).mono ?_); rintro e w2 ⟨rfl, hn⟩)))
  replace hb := hb.trans (hn.mono hb.size)
  refine hK.out _ _ (up_iff.2 hb) ?_
  clear hK K
  clear hn
  refine wpS_nil ?_
  simp only [List.drop_succ_cons, List.drop_zero]
  first | refine calls_w ?_ | refine name_world ?_ | refine list_world ?_ | refine post_world ?_
  intro U8 hU8
  first | (subst hU8; have u_ := U8; clear u_) | (rw [← hU8] at hb; clear hU8)
  clear c1_0 c1_1 c1_2 c1_3 l1 c2_0 c2_1 c2_2 c2_3 l2
  have k1 := Kk1.out.of hb
  clear Kk1
  have k2 := Kk2.out.of hb
  clear Kk2
  have k3 := Kk3.out.of hb
  clear Kk3
  have k4 := Kk4.out.of hb
  clear Kk4
  replace hb0 := hb0.trans (hb.mono hb0.size)
  clear hb
  go_wp2_with fail
  refine (cref_is dx dy dx dy HP29.out HP30.out _idx _idy  _).mono ?_
  rintro e U9 ⟨rfl, hn⟩
  replace k1 := k1.of hn
  replace k2 := k2.of hn
  replace k3 := k3.of hn
  replace k4 := k4.of hn
  replace hb0 := hb0.trans (hn.mono hb0.size)
  clear hn
  go_wp2_with fail
  refine (rMeet_v ax ay bx b_y cx cy dx dy 1 HP3.out _).mono ?_
  rintro e U10 ⟨rfl, hn⟩
  replace k1 := k1.of hn
  replace k2 := k2.of hn
  replace k3 := k3.of hn
  replace k4 := k4.of hn
  replace hb0 := hb0.trans (hn.mono hb0.size)
  clear hn
  go_wp2_with fail
  have c1_0 : U10.cell? ⟨w.heap.size, 0, none⟩ = some (.int .i64 ax) := k1.cell 0
  have c1_1 : U10.cell? ⟨w.heap.size, 1, none⟩ = some (.int .i64 ay) := k1.cell 1
  have c1_2 : U10.cell? ⟨w.heap.size, 2, none⟩ = some (.int .i64 bx) := k1.cell 2
  have c1_3 : U10.cell? ⟨w.heap.size, 3, none⟩ = some (.int .i64 b_y) := k1.cell 3
  have l1 := k1.lt
  have Kk1 := Lib.hid k1
  clear k1
  have Kk2 := Lib.hid k2
  clear k2
  have Kk3 := Lib.hid k3
  clear k3
  have Kk4 := Lib.hid k4
  clear k4
  refine wp_region_up U10.heap.size 12 [(true, 0), (true, 1), (true, 2), (true, 3), (true, 4), (true, 5), (true, 6), (true, 7), (true, 8), (true, 9), (true, 11), (false, 10)] (by kernel_rfl) (by kernel_rfl) (fun _ _ d _ _ h => by cases d <;> exact h) ?_
  have hb : Below U10.heap.size U10 U10.drew := (Below.refl _ _).drew
  iterate 11
    refine wpS_takeL rfl rfl ?_
    go_big_quiet_step (rfl)
    refine wpQuiet_nil ?_
  refine wpS_doL rfl ?_
  intro K hK
  go_wp2_with ((go_at_call 53; (with_reducible refine (SegRight_is ax ay bx b_y true HP1.out _iax _iay _ibx _ib_y  _).mono ?_); rintro e w2 ⟨rfl, hn⟩))
  try replace hb := hb.trans (hn.mono hb.size)
  refine hK.out _ _ (up_iff.2 hb) ?_
  clear hK K
  try clear hn
  refine wpS_nil ?_
  simp only [List.drop_succ_cons, List.drop_zero]
  first | refine calls_w ?_ | refine name_world ?_ | refine list_world ?_ | refine post_world ?_
  intro U11 hU11
  first | (subst hU11; have u_ := U11; clear u_) | (rw [← hU11] at hb; clear hU11)
  clear c1_0 c1_1 c1_2 c1_3 l1
  have k1 := Kk1.out.of hb
  clear Kk1
  have k2 := Kk2.out.of hb
  clear Kk2
  have k3 := Kk3.out.of hb
  clear Kk3
  have k4 := Kk4.out.of hb
  clear Kk4
  replace hb0 := hb0.trans (hb.mono hb0.size)
  clear hb
  go_wp2_with fail
  refine (cright_is ax ay bx b_y true HP0.out _iax _iay _ibx _ib_y  _).mono ?_
  rintro e U12 ⟨rfl, hn⟩
  replace k1 := k1.of hn
  replace k2 := k2.of hn
  replace k3 := k3.of hn
  replace k4 := k4.of hn
  replace hb0 := hb0.trans (hn.mono hb0.size)
  clear hn
  go_wp2_with fail
  have c3_0 : U12.cell? ⟨U2.heap.size, 0, none⟩ = some (.int .u64 (wd0 px)) := k3.cell 0
  have c3_1 : U12.cell? ⟨U2.heap.size, 1, none⟩ = some (.int .u64 (wd1 px)) := k3.cell 1
  have c3_2 : U12.cell? ⟨U2.heap.size, 2, none⟩ = some (.int .u64 (wd2 px)) := k3.cell 2
  have c3_3 : U12.cell? ⟨U2.heap.size, 3, none⟩ = some (.int .u64 (wd3 px)) := k3.cell 3
  have c3_4 : U12.cell? ⟨U2.heap.size, 4, none⟩ = some (.int .u64 (wd0 py)) := k3.cell 4
  have c3_5 : U12.cell? ⟨U2.heap.size, 5, none⟩ = some (.int .u64 (wd1 py)) := k3.cell 5
  have c3_6 : U12.cell? ⟨U2.heap.size, 6, none⟩ = some (.int .u64 (wd2 py)) := k3.cell 6
  have c3_7 : U12.cell? ⟨U2.heap.size, 7, none⟩ = some (.int .u64 (wd3 py)) := k3.cell 7
  have c3_8 : U12.cell? ⟨U2.heap.size, 8, none⟩ = some (.int .u64 (wd0 pw)) := k3.cell 8
  have c3_9 : U12.cell? ⟨U2.heap.size, 9, none⟩ = some (.int .u64 (wd1 pw)) := k3.cell 9
  have c3_10 : U12.cell? ⟨U2.heap.size, 10, none⟩ = some (.int .u64 (wd2 pw)) := k3.cell 10
  have c3_11 : U12.cell? ⟨U2.heap.size, 11, none⟩ = some (.int .u64 (wd3 pw)) := k3.cell 11
  have l3 := k3.lt
  have c4_0 : U12.cell? ⟨U4.heap.size, 0, none⟩ = some (.int .u64 (wd0 qx)) := k4.cell 0
  have c4_1 : U12.cell? ⟨U4.heap.size, 1, none⟩ = some (.int .u64 (wd1 qx)) := k4.cell 1
  have c4_2 : U12.cell? ⟨U4.heap.size, 2, none⟩ = some (.int .u64 (wd2 qx)) := k4.cell 2
  have c4_3 : U12.cell? ⟨U4.heap.size, 3, none⟩ = some (.int .u64 (wd3 qx)) := k4.cell 3
  have c4_4 : U12.cell? ⟨U4.heap.size, 4, none⟩ = some (.int .u64 (wd0 qy)) := k4.cell 4
  have c4_5 : U12.cell? ⟨U4.heap.size, 5, none⟩ = some (.int .u64 (wd1 qy)) := k4.cell 5
  have c4_6 : U12.cell? ⟨U4.heap.size, 6, none⟩ = some (.int .u64 (wd2 qy)) := k4.cell 6
  have c4_7 : U12.cell? ⟨U4.heap.size, 7, none⟩ = some (.int .u64 (wd3 qy)) := k4.cell 7
  have c4_8 : U12.cell? ⟨U4.heap.size, 8, none⟩ = some (.int .u64 (wd0 qw)) := k4.cell 8
  have c4_9 : U12.cell? ⟨U4.heap.size, 9, none⟩ = some (.int .u64 (wd1 qw)) := k4.cell 9
  have c4_10 : U12.cell? ⟨U4.heap.size, 10, none⟩ = some (.int .u64 (wd2 qw)) := k4.cell 10
  have c4_11 : U12.cell? ⟨U4.heap.size, 11, none⟩ = some (.int .u64 (wd3 qw)) := k4.cell 11
  have l4 := k4.lt
  have Kk1 := Lib.hid k1
  clear k1
  have Kk2 := Lib.hid k2
  clear k2
  have Kk3 := Lib.hid k3
  clear k3
  have Kk4 := Lib.hid k4
  clear k4
  refine wp_region_FG2 6 4 5 [(0, 0), (0, 2), (1, 1), (1, 3)] [(3, 6), (3, 7)] (by kernel_rfl) (by kernel_rfl) (fun _ _ d _ _ => by cases d <;> exact Iff.rfl) rfl rfl rfl alCrL6_0 rfl rfl rfl alCrL6_0 rfl ?_
  have hb : Below U12.heap.size U12 U12.drew := (Below.refl _ _).drew
  iterate 2
    refine wpFG_take0 rfl rfl ?_
    go_big_quiet_step (rfl)
    refine wpQuiet_nil ?_
  refine wpFG_do rfl ?_
  intro w1 hg K hK
  replace hb := hb.trans (hg.mono hb.size)
  try replace HB1 := Lib.hid (HB1.out.of hg); try replace HB2 := Lib.hid (HB2.out.of hg); try replace HB3 := Lib.hid (HB3.out.of hg); try replace HB4 := Lib.hid (HB4.out.of hg); try replace HB5 := Lib.hid (HB5.out.of hg); try replace HB6 := Lib.hid (HB6.out.of hg)
  clear hg
  go_wp2_with ((first | (go_at_call 55; (with_reducible refine (cspot_is px py pw px py pw HP8.out HP9.out HP10.out _ipx _ipy _ipw  _).mono ?_); rintro e w2 ⟨bn1, ba1, bl1, bc1, bn2, ba2, bl2, bc2, bn3, ba3, bl3, bc3, rfl, hbm1, hbm2, hbm3, hn⟩; have HB1 := Lib.hid hbm1; have HB2 := Lib.hid hbm2; have HB3 := Lib.hid hbm3; clear hbm1 hbm2 hbm3) | (go_at_call 55; (with_reducible refine (cspot_is qx qy qw qx qy qw HP15.out HP16.out HP17.out _iqx _iqy _iqw  _).mono ?_); rintro e w2 ⟨bn4, ba4, bl4, bc4, bn5, ba5, bl5, bc5, bn6, ba6, bl6, bc6, rfl, hbm4, hbm5, hbm6, hn⟩; replace HB1 := Lib.hid (HB1.out.of hn); replace HB2 := Lib.hid (HB2.out.of hn); replace HB3 := Lib.hid (HB3.out.of hn); have HB4 := Lib.hid hbm4; have HB5 := Lib.hid hbm5; have HB6 := Lib.hid hbm6; clear hbm4 hbm5 hbm6)))
  refine hK.out _ _ hn ?_
  replace hb := hb.trans (hn.mono hb.size)
  clear hK K
  clear hn
  refine wpFG_do rfl ?_
  intro w1 hg K hK
  replace hb := hb.trans (hg.mono hb.size)
  try replace HB1 := Lib.hid (HB1.out.of hg); try replace HB2 := Lib.hid (HB2.out.of hg); try replace HB3 := Lib.hid (HB3.out.of hg); try replace HB4 := Lib.hid (HB4.out.of hg); try replace HB5 := Lib.hid (HB5.out.of hg); try replace HB6 := Lib.hid (HB6.out.of hg)
  clear hg
  go_wp2_with ((first | (go_at_call 55; (with_reducible refine (cspot_is px py pw px py pw HP8.out HP9.out HP10.out _ipx _ipy _ipw  _).mono ?_); rintro e w2 ⟨bn1, ba1, bl1, bc1, bn2, ba2, bl2, bc2, bn3, ba3, bl3, bc3, rfl, hbm1, hbm2, hbm3, hn⟩; have HB1 := Lib.hid hbm1; have HB2 := Lib.hid hbm2; have HB3 := Lib.hid hbm3; clear hbm1 hbm2 hbm3) | (go_at_call 55; (with_reducible refine (cspot_is qx qy qw qx qy qw HP15.out HP16.out HP17.out _iqx _iqy _iqw  _).mono ?_); rintro e w2 ⟨bn4, ba4, bl4, bc4, bn5, ba5, bl5, bc5, bn6, ba6, bl6, bc6, rfl, hbm4, hbm5, hbm6, hn⟩; replace HB1 := Lib.hid (HB1.out.of hn); replace HB2 := Lib.hid (HB2.out.of hn); replace HB3 := Lib.hid (HB3.out.of hn); have HB4 := Lib.hid hbm4; have HB5 := Lib.hid hbm5; have HB6 := Lib.hid hbm6; clear hbm4 hbm5 hbm6)))
  refine hK.out _ _ hn ?_
  replace hb := hb.trans (hn.mono hb.size)
  clear hK K
  clear hn
  refine wpFG_nil ?_
  clear hb
  intro w1 hg hb b1 b2 hne lb1 nb1 lb2 nb2
  replace HB1 := Lib.hid (HB1.out.of hg)
  replace HB2 := Lib.hid (HB2.out.of hg)
  replace HB3 := Lib.hid (HB3.out.of hg)
  replace HB4 := Lib.hid (HB4.out.of hg)
  replace HB5 := Lib.hid (HB5.out.of hg)
  replace HB6 := Lib.hid (HB6.out.of hg)
  clear hg
  simp only [Act.put, ptrTo, List.setIfInBounds_toArray, List.set_cons_succ, List.set_cons_zero]
  have m1 : Blk w1 b1 #[.bool false, .slice none 0 0, .bool false, .slice none 0 0, .bool false, .slice none 0 0] 72 := nb1
  have mc1_0 : w1.cell? ⟨b1, 0, none⟩ = some (.bool false) := m1.cell 0
  have mf1_0 := m1.free 0
  have mc1_1 : w1.cell? ⟨b1, 1, none⟩ = some (.slice none 0 0) := m1.cell 1
  have mf1_1 := m1.free 1
  have mc1_2 : w1.cell? ⟨b1, 2, none⟩ = some (.bool false) := m1.cell 2
  have mf1_2 := m1.free 2
  have mc1_3 : w1.cell? ⟨b1, 3, none⟩ = some (.slice none 0 0) := m1.cell 3
  have mf1_3 := m1.free 3
  have mc1_4 : w1.cell? ⟨b1, 4, none⟩ = some (.bool false) := m1.cell 4
  have mf1_4 := m1.free 4
  have mc1_5 : w1.cell? ⟨b1, 5, none⟩ = some (.slice none 0 0) := m1.cell 5
  have mf1_5 := m1.free 5
  have m2 : Blk w1 b2 #[.bool false, .slice none 0 0, .bool false, .slice none 0 0, .bool false, .slice none 0 0] 72 := nb2
  have mc2_0 : w1.cell? ⟨b2, 0, none⟩ = some (.bool false) := m2.cell 0
  have mf2_0 := m2.free 0
  have mc2_1 : w1.cell? ⟨b2, 1, none⟩ = some (.slice none 0 0) := m2.cell 1
  have mf2_1 := m2.free 1
  have mc2_2 : w1.cell? ⟨b2, 2, none⟩ = some (.bool false) := m2.cell 2
  have mf2_2 := m2.free 2
  have mc2_3 : w1.cell? ⟨b2, 3, none⟩ = some (.slice none 0 0) := m2.cell 3
  have mf2_3 := m2.free 3
  have mc2_4 : w1.cell? ⟨b2, 4, none⟩ = some (.bool false) := m2.cell 4
  have mf2_4 := m2.free 4
  have mc2_5 : w1.cell? ⟨b2, 5, none⟩ = some (.slice none 0 0) := m2.cell 5
  have mf2_5 := m2.free 5
  refine wpG_do3 rfl ?_
  intro K hK
  go_wp2_with (fail)
  refine hK.out _ _ ?_
  clear hK K
  refine wpG_do3 rfl ?_
  intro K hK
  go_wp2_with (fail)
  refine hK.out _ _ ?_
  clear hK K
  refine wpG_nil ?_
  refine list_world ?_
  intro U13 hU13
  clear c3_0 c3_1 c3_2 c3_3 c3_4 c3_5 c3_6 c3_7 c3_8 c3_9 c3_10 c3_11 l3 c4_0 c4_1 c4_2 c4_3 c4_4 c4_5 c4_6 c4_7 c4_8 c4_9 c4_10 c4_11 l4
  have D8 := Lib.hid Kk1.out.lt
  have D9 := Lib.hid Kk2.out.lt
  have D10 := Lib.hid Kk3.out.lt
  have D11 := Lib.hid Kk4.out.lt
  have D12 := Lib.hid hb0.size
  have D13 := Lib.hid lb1
  have D14 := Lib.hid lb2
  have D15 := Lib.hid (show b1 ≠ b2 from hne)
  have k1 : Blk U13 w.heap.size #[.int .i64 ax, .int .i64 ay, .int .i64 bx, .int .i64 b_y] 50 := by rw [hU13]; exact (blk_setL (blk_setL (Kk1.out.of hb) (by have := D8.out; have := D13.out; omega) 0 [.bool bn1, .slice ba1 bl1 bc1, .bool bn2, .slice ba2 bl2 bc2, .bool bn3, .slice ba3 bl3 bc3]) (by have := D8.out; have := D14.out; omega) 0 [.bool bn4, .slice ba4 bl4 bc4, .bool bn5, .slice ba5 bl5 bc5, .bool bn6, .slice ba6 bl6 bc6])
  have k2 : Blk U13 (w.heap.size + 1) #[.int .i64 cx, .int .i64 cy, .int .i64 dx, .int .i64 dy] 50 := by rw [hU13]; exact (blk_setL (blk_setL (Kk2.out.of hb) (by have := D9.out; have := D13.out; omega) 0 [.bool bn1, .slice ba1 bl1 bc1, .bool bn2, .slice ba2 bl2 bc2, .bool bn3, .slice ba3 bl3 bc3]) (by have := D9.out; have := D14.out; omega) 0 [.bool bn4, .slice ba4 bl4 bc4, .bool bn5, .slice ba5 bl5 bc5, .bool bn6, .slice ba6 bl6 bc6])
  have k3 : Blk U13 U2.heap.size #[.int .u64 (wd0 px), .int .u64 (wd1 px), .int .u64 (wd2 px), .int .u64 (wd3 px), .int .u64 (wd0 py), .int .u64 (wd1 py), .int .u64 (wd2 py), .int .u64 (wd3 py), .int .u64 (wd0 pw), .int .u64 (wd1 pw), .int .u64 (wd2 pw), .int .u64 (wd3 pw)] 67 := by rw [hU13]; exact (blk_setL (blk_setL (Kk3.out.of hb) (by have := D10.out; have := D13.out; omega) 0 [.bool bn1, .slice ba1 bl1 bc1, .bool bn2, .slice ba2 bl2 bc2, .bool bn3, .slice ba3 bl3 bc3]) (by have := D10.out; have := D14.out; omega) 0 [.bool bn4, .slice ba4 bl4 bc4, .bool bn5, .slice ba5 bl5 bc5, .bool bn6, .slice ba6 bl6 bc6])
  have k4 : Blk U13 U4.heap.size #[.int .u64 (wd0 qx), .int .u64 (wd1 qx), .int .u64 (wd2 qx), .int .u64 (wd3 qx), .int .u64 (wd0 qy), .int .u64 (wd1 qy), .int .u64 (wd2 qy), .int .u64 (wd3 qy), .int .u64 (wd0 qw), .int .u64 (wd1 qw), .int .u64 (wd2 qw), .int .u64 (wd3 qw)] 67 := by rw [hU13]; exact (blk_setL (blk_setL (Kk4.out.of hb) (by have := D11.out; have := D13.out; omega) 0 [.bool bn1, .slice ba1 bl1 bc1, .bool bn2, .slice ba2 bl2 bc2, .bool bn3, .slice ba3 bl3 bc3]) (by have := D11.out; have := D14.out; omega) 0 [.bool bn4, .slice ba4 bl4 bc4, .bool bn5, .slice ba5 bl5 bc5, .bool bn6, .slice ba6 bl6 bc6])
  have k5 : Blk U13 b1 #[.bool bn1, .slice ba1 bl1 bc1, .bool bn2, .slice ba2 bl2 bc2, .bool bn3, .slice ba3 bl3 bc3] 72 := by rw [hU13]; exact (blk_setL (blk_full _ [.bool bn1, .slice ba1 bl1 bc1, .bool bn2, .slice ba2 bl2 bc2, .bool bn3, .slice ba3 bl3 bc3] m1 rfl) (by have := D15.out; omega) 0 [.bool bn4, .slice ba4 bl4 bc4, .bool bn5, .slice ba5 bl5 bc5, .bool bn6, .slice ba6 bl6 bc6])
  have k6 : Blk U13 b2 #[.bool bn4, .slice ba4 bl4 bc4, .bool bn5, .slice ba5 bl5 bc5, .bool bn6, .slice ba6 bl6 bc6] 72 := by rw [hU13]; exact (blk_full _ [.bool bn4, .slice ba4 bl4 bc4, .bool bn5, .slice ba5 bl5 bc5, .bool bn6, .slice ba6 bl6 bc6] (blk_setL m2 (by have := D15.out; omega) 0 [.bool bn1, .slice ba1 bl1 bc1, .bool bn2, .slice ba2 bl2 bc2, .bool bn3, .slice ba3 bl3 bc3]) rfl)
  replace HB1 : Hid (Big U13 (.agg #[.bool bn1, .slice ba1 bl1 bc1]) px 18) := Lib.hid (by rw [hU13]; exact (big_setL (big_setL HB1.out (Blk.cell m1 0) (fun _ h => by cases h) 0 [.bool bn1, .slice ba1 bl1 bc1, .bool bn2, .slice ba2 bl2 bc2, .bool bn3, .slice ba3 bl3 bc3]) (Blk.cell (blk_setL m2 (by have := D15.out; omega) 0 [.bool bn1, .slice ba1 bl1 bc1, .bool bn2, .slice ba2 bl2 bc2, .bool bn3, .slice ba3 bl3 bc3]) 0) (fun _ h => by cases h) 0 [.bool bn4, .slice ba4 bl4 bc4, .bool bn5, .slice ba5 bl5 bc5, .bool bn6, .slice ba6 bl6 bc6]))
  replace HB2 : Hid (Big U13 (.agg #[.bool bn2, .slice ba2 bl2 bc2]) py 18) := Lib.hid (by rw [hU13]; exact (big_setL (big_setL HB2.out (Blk.cell m1 0) (fun _ h => by cases h) 0 [.bool bn1, .slice ba1 bl1 bc1, .bool bn2, .slice ba2 bl2 bc2, .bool bn3, .slice ba3 bl3 bc3]) (Blk.cell (blk_setL m2 (by have := D15.out; omega) 0 [.bool bn1, .slice ba1 bl1 bc1, .bool bn2, .slice ba2 bl2 bc2, .bool bn3, .slice ba3 bl3 bc3]) 0) (fun _ h => by cases h) 0 [.bool bn4, .slice ba4 bl4 bc4, .bool bn5, .slice ba5 bl5 bc5, .bool bn6, .slice ba6 bl6 bc6]))
  replace HB3 : Hid (Big U13 (.agg #[.bool bn3, .slice ba3 bl3 bc3]) pw 18) := Lib.hid (by rw [hU13]; exact (big_setL (big_setL HB3.out (Blk.cell m1 0) (fun _ h => by cases h) 0 [.bool bn1, .slice ba1 bl1 bc1, .bool bn2, .slice ba2 bl2 bc2, .bool bn3, .slice ba3 bl3 bc3]) (Blk.cell (blk_setL m2 (by have := D15.out; omega) 0 [.bool bn1, .slice ba1 bl1 bc1, .bool bn2, .slice ba2 bl2 bc2, .bool bn3, .slice ba3 bl3 bc3]) 0) (fun _ h => by cases h) 0 [.bool bn4, .slice ba4 bl4 bc4, .bool bn5, .slice ba5 bl5 bc5, .bool bn6, .slice ba6 bl6 bc6]))
  replace HB4 : Hid (Big U13 (.agg #[.bool bn4, .slice ba4 bl4 bc4]) qx 18) := Lib.hid (by rw [hU13]; exact (big_setL (big_setL HB4.out (Blk.cell m1 0) (fun _ h => by cases h) 0 [.bool bn1, .slice ba1 bl1 bc1, .bool bn2, .slice ba2 bl2 bc2, .bool bn3, .slice ba3 bl3 bc3]) (Blk.cell (blk_setL m2 (by have := D15.out; omega) 0 [.bool bn1, .slice ba1 bl1 bc1, .bool bn2, .slice ba2 bl2 bc2, .bool bn3, .slice ba3 bl3 bc3]) 0) (fun _ h => by cases h) 0 [.bool bn4, .slice ba4 bl4 bc4, .bool bn5, .slice ba5 bl5 bc5, .bool bn6, .slice ba6 bl6 bc6]))
  replace HB5 : Hid (Big U13 (.agg #[.bool bn5, .slice ba5 bl5 bc5]) qy 18) := Lib.hid (by rw [hU13]; exact (big_setL (big_setL HB5.out (Blk.cell m1 0) (fun _ h => by cases h) 0 [.bool bn1, .slice ba1 bl1 bc1, .bool bn2, .slice ba2 bl2 bc2, .bool bn3, .slice ba3 bl3 bc3]) (Blk.cell (blk_setL m2 (by have := D15.out; omega) 0 [.bool bn1, .slice ba1 bl1 bc1, .bool bn2, .slice ba2 bl2 bc2, .bool bn3, .slice ba3 bl3 bc3]) 0) (fun _ h => by cases h) 0 [.bool bn4, .slice ba4 bl4 bc4, .bool bn5, .slice ba5 bl5 bc5, .bool bn6, .slice ba6 bl6 bc6]))
  replace HB6 : Hid (Big U13 (.agg #[.bool bn6, .slice ba6 bl6 bc6]) qw 18) := Lib.hid (by rw [hU13]; exact (big_setL (big_setL HB6.out (Blk.cell m1 0) (fun _ h => by cases h) 0 [.bool bn1, .slice ba1 bl1 bc1, .bool bn2, .slice ba2 bl2 bc2, .bool bn3, .slice ba3 bl3 bc3]) (Blk.cell (blk_setL m2 (by have := D15.out; omega) 0 [.bool bn1, .slice ba1 bl1 bc1, .bool bn2, .slice ba2 bl2 bc2, .bool bn3, .slice ba3 bl3 bc3]) 0) (fun _ h => by cases h) 0 [.bool bn4, .slice ba4 bl4 bc4, .bool bn5, .slice ba5 bl5 bc5, .bool bn6, .slice ba6 bl6 bc6]))
  replace hb0 : Below w.heap.size w U13 := by rw [hU13]; exact (blw_setL (blw_setL (hb0.trans (hb.mono hb0.size)) (by have := D12.out; have := D13.out; omega) 0 [.bool bn1, .slice ba1 bl1 bc1, .bool bn2, .slice ba2 bl2 bc2, .bool bn3, .slice ba3 bl3 bc3]) (by have := D12.out; have := D14.out; omega) 0 [.bool bn4, .slice ba4 bl4 bc4, .bool bn5, .slice ba5 bl5 bc5, .bool bn6, .slice ba6 bl6 bc6])
  clear hU13 hb Kk1 Kk2 Kk3 Kk4 m1 nb1 lb1 mc1_0 mf1_0 mc1_1 mf1_1 mc1_2 mf1_2 mc1_3 mf1_3 mc1_4 mf1_4 mc1_5 mf1_5 m2 nb2 lb2 mc2_0 mf2_0 mc2_1 mf2_1 mc2_2 mf2_2 mc2_3 mf2_3 mc2_4 mf2_4 mc2_5 mf2_5 hne
  generalize b1 = q5 at *
  generalize b2 = q6 at *
  go_wp2_with fail
  clear k3 k4
  have c1_0 : U13.cell? ⟨w.heap.size, 0, none⟩ = some (.int .i64 ax) := k1.cell 0
  have c1_1 : U13.cell? ⟨w.heap.size, 1, none⟩ = some (.int .i64 ay) := k1.cell 1
  have c1_2 : U13.cell? ⟨w.heap.size, 2, none⟩ = some (.int .i64 bx) := k1.cell 2
  have c1_3 : U13.cell? ⟨w.heap.size, 3, none⟩ = some (.int .i64 b_y) := k1.cell 3
  have l1 := k1.lt
  have c2_0 : U13.cell? ⟨(w.heap.size + 1), 0, none⟩ = some (.int .i64 cx) := k2.cell 0
  have c2_1 : U13.cell? ⟨(w.heap.size + 1), 1, none⟩ = some (.int .i64 cy) := k2.cell 1
  have c2_2 : U13.cell? ⟨(w.heap.size + 1), 2, none⟩ = some (.int .i64 dx) := k2.cell 2
  have c2_3 : U13.cell? ⟨(w.heap.size + 1), 3, none⟩ = some (.int .i64 dy) := k2.cell 3
  have l2 := k2.lt
  have c5_0 : U13.cell? ⟨q5, 0, none⟩ = some (.bool bn1) := k5.cell 0
  have c5_1 : U13.cell? ⟨q5, 1, none⟩ = some (.slice ba1 bl1 bc1) := k5.cell 1
  have c5_2 : U13.cell? ⟨q5, 2, none⟩ = some (.bool bn2) := k5.cell 2
  have c5_3 : U13.cell? ⟨q5, 3, none⟩ = some (.slice ba2 bl2 bc2) := k5.cell 3
  have c5_4 : U13.cell? ⟨q5, 4, none⟩ = some (.bool bn3) := k5.cell 4
  have c5_5 : U13.cell? ⟨q5, 5, none⟩ = some (.slice ba3 bl3 bc3) := k5.cell 5
  have l5 := k5.lt
  have c6_0 : U13.cell? ⟨q6, 0, none⟩ = some (.bool bn4) := k6.cell 0
  have c6_1 : U13.cell? ⟨q6, 1, none⟩ = some (.slice ba4 bl4 bc4) := k6.cell 1
  have c6_2 : U13.cell? ⟨q6, 2, none⟩ = some (.bool bn5) := k6.cell 2
  have c6_3 : U13.cell? ⟨q6, 3, none⟩ = some (.slice ba5 bl5 bc5) := k6.cell 3
  have c6_4 : U13.cell? ⟨q6, 4, none⟩ = some (.bool bn6) := k6.cell 4
  have c6_5 : U13.cell? ⟨q6, 5, none⟩ = some (.slice ba6 bl6 bc6) := k6.cell 5
  have l6 := k6.lt
  have Kk1 := Lib.hid k1
  clear k1
  have Kk2 := Lib.hid k2
  clear k2
  have Kk5 := Lib.hid k5
  clear k5
  have Kk6 := Lib.hid k6
  clear k6
  refine wp_region_up U13.heap.size 30 [(true, 0), (false, 1), (true, 2), (true, 3), (false, 4), (true, 5), (true, 6), (true, 7), (true, 8), (false, 9), (true, 10), (true, 11), (true, 12), (true, 13), (true, 14), (true, 16), (true, 17), (true, 19), (false, 15), (false, 18), (false, 20), (true, 21), (true, 22), (true, 23), (true, 24), (true, 26), (true, 27), (true, 29), (false, 25), (false, 28)] (by kernel_rfl) (by kernel_rfl) (fun _ _ d _ _ h => by cases d <;> exact h) ?_
  have hb : Below U13.heap.size U13 U13.drew := (Below.refl _ _).drew
  refine wpS_takeL rfl rfl ?_
  go_big_quiet_step (rfl)
  refine wpQuiet_nil ?_
  refine wpS_doL rfl ?_
  intro K hK
  go_wp2_with ((first | (go_at_call 41; (with_reducible refine (rSpR_is px py pw true HP18.out  bn1 ba1 bl1 bc1 bn2 ba2 bl2 bc2 bn3 ba3 bl3 bc3 _ (HB1.out.of hb) (HB2.out.of hb) (HB3.out.of hb)).mono ?_); rintro e w2 ⟨rfl, hn⟩) | (go_at_call 41; (with_reducible refine (rSpR_is qx qy qw true HP19.out  bn4 ba4 bl4 bc4 bn5 ba5 bl5 bc5 bn6 ba6 bl6 bc6 _ (HB4.out.of hb) (HB5.out.of hb) (HB6.out.of hb)).mono ?_); rintro e w2 ⟨rfl, hn⟩)))
  replace hb := hb.trans (hn.mono hb.size)
  refine hK.out _ _ (up_iff.2 hb) ?_
  clear hK K
  clear hn
  iterate 2
    refine wpS_takeL rfl rfl ?_
    go_big_quiet_step (rfl)
    refine wpQuiet_nil ?_
  refine wpS_doL rfl ?_
  intro K hK
  go_wp2_with ((first | (go_at_call 41; (with_reducible refine (rSpR_is px py pw true HP18.out  bn1 ba1 bl1 bc1 bn2 ba2 bl2 bc2 bn3 ba3 bl3 bc3 _ (HB1.out.of hb) (HB2.out.of hb) (HB3.out.of hb)).mono ?_); rintro e w2 ⟨rfl, hn⟩) | (go_at_call 41; (with_reducible refine (rSpR_is qx qy qw true HP19.out  bn4 ba4 bl4 bc4 bn5 ba5 bl5 bc5 bn6 ba6 bl6 bc6 _ (HB4.out.of hb) (HB5.out.of hb) (HB6.out.of hb)).mono ?_); rintro e w2 ⟨rfl, hn⟩)))
  try replace hb := hb.trans (hn.mono hb.size)
  refine hK.out _ _ (up_iff.2 hb) ?_
  clear hK K
  try clear hn
  iterate 4
    refine wpS_takeL rfl rfl ?_
    go_big_quiet_step (rfl)
    refine wpQuiet_nil ?_
  refine wpS_doL rfl ?_
  intro K hK
  go_wp2_with ((go_at_call 56; (with_reducible refine (rSpC_is px py pw qx qy qw 0 HP20.out  bn1 ba1 bl1 bc1 bn2 ba2 bl2 bc2 bn3 ba3 bl3 bc3 bn4 ba4 bl4 bc4 bn5 ba5 bl5 bc5 bn6 ba6 bl6 bc6 _ (HB1.out.of hb) (HB2.out.of hb) (HB3.out.of hb) (HB4.out.of hb) (HB5.out.of hb) (HB6.out.of hb)).mono ?_); rintro e w2 ⟨rfl, hn⟩))
  try replace hb := hb.trans (hn.mono hb.size)
  refine hK.out _ _ (up_iff.2 hb) ?_
  clear hK K
  try clear hn
  iterate 8
    refine wpS_takeL rfl rfl ?_
    go_big_quiet_step (rfl)
    refine wpQuiet_nil ?_
  refine wpS_doL rfl ?_
  intro K hK
  go_wp2_with ((first | (go_at_call 52; (with_reducible refine (cref_is ax ay ax ay HP23.out HP24.out _iax _iay  _).mono ?_); rintro e w2 ⟨rfl, hn⟩) | (go_at_call 52; (with_reducible refine (cref_is bx b_y bx b_y HP25.out HP26.out _ibx _ib_y  _).mono ?_); rintro e w2 ⟨rfl, hn⟩) | (go_at_call 52; (with_reducible refine (cref_is cx cy cx cy HP27.out HP28.out _icx _icy  _).mono ?_); rintro e w2 ⟨rfl, hn⟩) | (go_at_call 52; (with_reducible refine (cref_is dx dy dx dy HP29.out HP30.out _idx _idy  _).mono ?_); rintro e w2 ⟨rfl, hn⟩)))
  try replace hb := hb.trans (hn.mono hb.size)
  refine hK.out _ _ (up_iff.2 hb) ?_
  clear hK K
  try clear hn
  refine wpS_doL rfl ?_
  intro K hK
  go_wp2_with ((first | (go_at_call 52; (with_reducible refine (cref_is ax ay ax ay HP23.out HP24.out _iax _iay  _).mono ?_); rintro e w2 ⟨rfl, hn⟩) | (go_at_call 52; (with_reducible refine (cref_is bx b_y bx b_y HP25.out HP26.out _ibx _ib_y  _).mono ?_); rintro e w2 ⟨rfl, hn⟩) | (go_at_call 52; (with_reducible refine (cref_is cx cy cx cy HP27.out HP28.out _icx _icy  _).mono ?_); rintro e w2 ⟨rfl, hn⟩) | (go_at_call 52; (with_reducible refine (cref_is dx dy dx dy HP29.out HP30.out _idx _idy  _).mono ?_); rintro e w2 ⟨rfl, hn⟩)))
  try replace hb := hb.trans (hn.mono hb.size)
  refine hK.out _ _ (up_iff.2 hb) ?_
  clear hK K
  try clear hn
  refine wpS_doL rfl ?_
  intro K hK
  go_wp2_with ((go_at_call 57; (with_reducible refine (rHolds_is ax ay bx b_y px py pw true HP21.out _iax _iay _ibx _ib_y bn1 ba1 bl1 bc1 bn2 ba2 bl2 bc2 bn3 ba3 bl3 bc3 _ (HB1.out.of hb) (HB2.out.of hb) (HB3.out.of hb)).mono ?_); rintro e w2 ⟨rfl, hn⟩))
  try replace hb := hb.trans (hn.mono hb.size)
  refine hK.out _ _ (up_iff.2 hb) ?_
  clear hK K
  try clear hn
  iterate 7
    refine wpS_takeL rfl rfl ?_
    go_big_quiet_step (rfl)
    refine wpQuiet_nil ?_
  refine wpS_doL rfl ?_
  intro K hK
  go_wp2_with ((first | (go_at_call 52; (with_reducible refine (cref_is ax ay ax ay HP23.out HP24.out _iax _iay  _).mono ?_); rintro e w2 ⟨rfl, hn⟩) | (go_at_call 52; (with_reducible refine (cref_is bx b_y bx b_y HP25.out HP26.out _ibx _ib_y  _).mono ?_); rintro e w2 ⟨rfl, hn⟩) | (go_at_call 52; (with_reducible refine (cref_is cx cy cx cy HP27.out HP28.out _icx _icy  _).mono ?_); rintro e w2 ⟨rfl, hn⟩) | (go_at_call 52; (with_reducible refine (cref_is dx dy dx dy HP29.out HP30.out _idx _idy  _).mono ?_); rintro e w2 ⟨rfl, hn⟩)))
  try replace hb := hb.trans (hn.mono hb.size)
  refine hK.out _ _ (up_iff.2 hb) ?_
  clear hK K
  try clear hn
  refine wpS_doL rfl ?_
  intro K hK
  go_wp2_with ((first | (go_at_call 52; (with_reducible refine (cref_is ax ay ax ay HP23.out HP24.out _iax _iay  _).mono ?_); rintro e w2 ⟨rfl, hn⟩) | (go_at_call 52; (with_reducible refine (cref_is bx b_y bx b_y HP25.out HP26.out _ibx _ib_y  _).mono ?_); rintro e w2 ⟨rfl, hn⟩) | (go_at_call 52; (with_reducible refine (cref_is cx cy cx cy HP27.out HP28.out _icx _icy  _).mono ?_); rintro e w2 ⟨rfl, hn⟩) | (go_at_call 52; (with_reducible refine (cref_is dx dy dx dy HP29.out HP30.out _idx _idy  _).mono ?_); rintro e w2 ⟨rfl, hn⟩)))
  try replace hb := hb.trans (hn.mono hb.size)
  refine hK.out _ _ (up_iff.2 hb) ?_
  clear hK K
  try clear hn
  refine wpS_nil ?_
  simp only [List.drop_succ_cons, List.drop_zero]
  first | refine calls_w ?_ | refine name_world ?_ | refine list_world ?_ | refine post_world ?_
  intro U14 hU14
  first | (subst hU14; have u_ := U14; clear u_) | (rw [← hU14] at hb; clear hU14)
  clear c1_0 c1_1 c1_2 c1_3 l1 c2_0 c2_1 c2_2 c2_3 l2 c5_0 c5_1 c5_2 c5_3 c5_4 c5_5 l5 c6_0 c6_1 c6_2 c6_3 c6_4 c6_5 l6
  have k1 := Kk1.out.of hb
  clear Kk1
  have k2 := Kk2.out.of hb
  clear Kk2
  have k5 := Kk5.out.of hb
  clear Kk5
  have k6 := Kk6.out.of hb
  clear Kk6
  replace HB1 := Lib.hid (HB1.out.of hb)
  replace HB2 := Lib.hid (HB2.out.of hb)
  replace HB3 := Lib.hid (HB3.out.of hb)
  replace HB4 := Lib.hid (HB4.out.of hb)
  replace HB5 := Lib.hid (HB5.out.of hb)
  replace HB6 := Lib.hid (HB6.out.of hb)
  replace hb0 := hb0.trans (hb.mono hb0.size)
  clear hb
  go_wp2_with fail
  refine (rHolds_is cx cy dx dy px py pw true HP22.out _icx _icy _idx _idy bn1 ba1 bl1 bc1 bn2 ba2 bl2 bc2 bn3 ba3 bl3 bc3 _ HB1.out HB2.out HB3.out).mono ?_
  rintro e U15 ⟨rfl, hn⟩
  clear HB1 HB2 HB3 HB4 HB5 HB6
  clear k1 k2 k5 k6
  replace hb0 := hb0.trans (hn.mono hb0.size)
  clear hn
  go_wp2_with fail
  refine (cawake_any _).mono ?_
  rintro e U16 ⟨rfl, hn⟩
  replace hb0 := hb0.trans (hn.mono hb0.size)
  clear hn
  go_wp2
  first | go_ret | go_ret2
  exact ⟨by first | rfl | (simp; done) | (simp; assumption), hb0⟩
end Go.Proofs.Ytlcbomjdbdgbmaa

namespace Go.Proofs.Ytlcbomjdbdgbmaa
open Go.RowKit

theorem mt_off1 {ax ay bx b_y cx cy dx dy : Int} (h : sgR ax ay bx b_y = false) : mtk ax ay bx b_y cx cy dx dy = 0 ∧ mtx ax ay bx b_y cx cy dx dy = 0 ∧ mty ax ay bx b_y cx cy dx dy = 0 ∧ mtw ax ay bx b_y cx cy dx dy = 0 := by
  unfold mtk mtx mty mtw; rw [h]; exact ⟨rfl, rfl, rfl, rfl⟩
theorem mt_off2 {ax ay bx b_y cx cy dx dy : Int} (h : sgR cx cy dx dy = false) : mtk ax ay bx b_y cx cy dx dy = 0 ∧ mtx ax ay bx b_y cx cy dx dy = 0 ∧ mty ax ay bx b_y cx cy dx dy = 0 ∧ mtw ax ay bx b_y cx cy dx dy = 0 := by
  unfold mtk mtx mty mtw; rw [h]; cases sgR ax ay bx b_y <;> exact ⟨rfl, rfl, rfl, rfl⟩
theorem CMeets_any (ax ay bx b_y cx cy dx dy : Int) (h1 : In64 ax) (h2 : In64 ay) (h3 : In64 bx) (h4 : In64 b_y) (h5 : In64 cx) (h6 : In64 cy) (h7 : In64 dx) (h8 : In64 dy) (w : World) :
    Calls Try.prog 10 #[.agg #[.int .i64 ax, .int .i64 ay, .int .i64 bx, .int .i64 b_y], .agg #[.int .i64 cx, .int .i64 cy, .int .i64 dx, .int .i64 dy]] w fun e w' => e = .returned (.bool true) ∧ Below w.heap.size w w' := by
  cases hs : sgR ax ay bx b_y
  · obtain ⟨a1, a2, a3, a4⟩ := mt_off1 (cx := cx) (cy := cy) (dx := dx) (dy := dy) hs
    obtain ⟨b1, b2, b3, b4⟩ := mt_off2 (ax := cx) (ay := cy) (bx := dx) (b_y := dy) hs
    exact CMeets_1 ax ay bx b_y cx cy dx dy hs hs a1 b1 a2 a3 a4 b2 b3 b4 h1 h2 h3 h4 h5 h6 h7 h8 w
  · cases ht : sgR cx cy dx dy
    · obtain ⟨a1, a2, a3, a4⟩ := mt_off2 (ax := ax) (ay := ay) (bx := bx) (b_y := b_y) ht
      obtain ⟨b1, b2, b3, b4⟩ := mt_off1 (cx := ax) (cy := ay) (dx := bx) (dy := b_y) ht
      exact CMeets_2 ax ay bx b_y cx cy dx dy hs hs ht a1 b1 a2 a3 a4 b2 b3 b4 h1 h2 h3 h4 h5 h6 h7 h8 w
    · obtain ⟨e, k, z⟩ := meet_ok hs ht
      obtain ⟨e2, k2, z2⟩ := meet_ok ht hs
      have e3 := e2.trans ((rmt_comm ax ay bx b_y cx cy dx dy).trans e.symm)
      by_cases g : mtk ax ay bx b_y cx cy dx dy = 1
      · obtain ⟨r1, p1, p2, o1⟩ := k g
        obtain ⟨r2, q1, q2, o2⟩ := k2 (e3.trans g)
        exact CMeets_4 ax ay bx b_y cx cy dx dy _ _ _ _ _ _ hs hs ht (e.symm.trans g) g rfl rfl rfl rfl rfl rfl (e3.trans g) rfl rfl rfl rfl rfl rfl r1 r2 (o1 _ _ _ _ _ _ r1 r2 p1 p2 q2 q1) ((hld_eq hs r1).symm.trans p1) ((hld_eq ht r1).symm.trans p2) rfl rfl rfl rfl rfl rfl rfl rfl
          (mtx_in _ _ _ _ _ _ _ _ h1 h2 h3 h4 h5 h6 h7 h8) (mty_in _ _ _ _ _ _ _ _ h1 h2 h3 h4 h5 h6 h7 h8) (mtw_in _ _ _ _ _ _ _ _ h1 h2 h3 h4 h5 h6 h7 h8)
          (mtx_in _ _ _ _ _ _ _ _ h5 h6 h7 h8 h1 h2 h3 h4) (mty_in _ _ _ _ _ _ _ _ h5 h6 h7 h8 h1 h2 h3 h4) (mtw_in _ _ _ _ _ _ _ _ h5 h6 h7 h8 h1 h2 h3 h4) h1 h2 h3 h4 h5 h6 h7 h8 w
      · obtain ⟨a2, a3, a4⟩ := z g
        obtain ⟨b2, b3, b4⟩ := z2 (fun q => g (e3.symm.trans q))
        exact CMeets_3 ax ay bx b_y cx cy dx dy _ hs hs ht rfl e3 e.symm (by simpa using g) a2 a3 a4 b2 b3 b4 rfl rfl rfl rfl rfl rfl rfl rfl h1 h2 h3 h4 h5 h6 h7 h8 w
end Go.Proofs.Ytlcbomjdbdgbmaa

namespace Go.Proofs.Ytlcbomjdbdgbmaa
open Go.ChangeShapes Go.WideShapes Go.ChangeAt Go.RowKit Go.Joins
section
variable {H : Type} {enc : TypeId × Value → H} {w : World} {base : Nat} {spare : Nat → Bool} {held : Bool}
set_option maxRecDepth 100000 in
theorem open_seg {r : Reach} {b0 : Nat} {v : Value} {d : DataW H} {p : List MemPlace} (hv : Value.okWide Try.prog w r b0 50 v) (h : DataW.Trod enc Try.prog w base spare held 50 v d p) :
    ∃ a b c d, In64 a ∧ In64 b ∧ In64 c ∧ In64 d ∧ v = .agg #[.int .i64 a, .int .i64 b, .int .i64 c, .int .i64 d] := by
  obtain ⟨cs, rfl, hsz⟩ := okWide_struct Try.underlying50 hv
  have hC : Try.prog.cellsOf 50 = 4 := by kernel_rfl
  obtain ⟨l⟩ := cs
  match l, hsz.trans hC with
  | [c0, c1, c2, c3], _ =>
    obtain ⟨fuel, hf⟩ := h
    obtain ⟨xs, k, _, hx, _, hlen, hg⟩ := DataW.trod_struct Try.underlying50 hf
    have hC2 : Try.prog.cellsOf 24 = 2 := by kernel_rfl
    match xs, hlen with
    | [y0, y1], _ =>
      have g0 := hg 0 _ rfl
      have g1 := hg 1 _ rfl
      simp [Value.cells, hC2] at g0 g1
      obtain ⟨a, b, ia, ib, rfl, rfl⟩ := open_pt2 g0
      obtain ⟨c, d, ic, id, rfl, rfl⟩ := open_pt2 g1
      exact ⟨a, b, c, d, ia, ib, ic, id, rfl⟩
end
end Go.Proofs.Ytlcbomjdbdgbmaa

namespace Go.Proofs.Ytlcbomjdbdgbmaa
open Go.ChangeShapes Go.WideShapes Go.ChangeAt Go.RowKit

set_option maxRecDepth 100000 in
set_option maxHeartbeats 1000000 in
theorem crossMeets_lifted (os : Os) (started : os.Started) (H : Type) (enc : TypeId × Value → H) :
    ReturnsInHanded {} Try.checked os 10 .any (Rows.crossMeetsSpec.pre6 enc Try.prog Try.f10 Rows.crossMeetsRow.domain false) (Rows.crossMeetsSpec.post enc Try.prog Try.f10 false true false false) := by
  refine returnsInHanded_of_change (C := Try.checked) own started (by kernel_rfl) Try.func10
    (ChangeSpec.witness6 (enc := enc) (C := Try.checked) false ⟨#[], #[.agg #[.int .i64 0, .int .i64 0, .int .i64 0, .int .i64 0], .agg #[.int .i64 0, .int .i64 0, .int .i64 0, .int .i64 0]], []⟩ 8 (by kernel_rfl) (by kernel_rfl) (by kernel_rfl) (by kernel_rfl)) ?_
  intro W base args ds gs before hval0 hW hcnd _
  have hval : ∀ (j : Nat) t v, Try.f10.params[j]? = some t → args[j]? = some v → Value.okWide Try.prog W .any base t v := hval0
  have hW' := hW
  obtain ⟨p, q, hA0, hV, rfl, hfz, hnd⟩ := hW
  have hA : DataW.TrodAll enc Try.prog W 0 (fun _ => true) true Try.f10.params.toList args.toList ds p := hA0
  rw [Try.params10] at hA hval
  obtain ⟨v0, vs0, d0, ds0, p0, q0, hargs, rfl, rfl, h0, r0⟩ := trodAll_cons hA
  obtain ⟨v1, vs1, d1, ds1, p1, q1, rfl, rfl, rfl, h1, r1⟩ := trodAll_cons r0
  obtain ⟨rfl, rfl, rfl⟩ := trodAll_nil r1
  obtain rfl : args = #[v0, v1] := by cases args; simp_all
  obtain ⟨rfl, rfl⟩ := trodVars_none hV
  have k0 := h0
  have lt0 : ∀ x ∈ p0, x.block < W.heap.size := by obtain ⟨m, hm⟩ := k0; exact DataW.trod_lt m _ _ _ hm
  obtain ⟨a0, b0, c0, e0, ia0, ib0, ic0, ie0, rfl⟩ := open_seg (hval 0 50 v0 rfl rfl) h0
  have k1 := h1
  have lt1 : ∀ x ∈ p1, x.block < W.heap.size := by obtain ⟨m, hm⟩ := k1; exact DataW.trod_lt m _ _ _ hm
  obtain ⟨a1, b1, c1, e1, ia1, ib1, ic1, ie1, rfl⟩ := open_seg (hval 1 50 v1 rfl rfl) h1
  clear hA0 hval0
  refine (CMeets_any a0 b0 c0 e0 a1 b1 c1 e1 ia0 ib0 ic0 ie0 ia1 ib1 ic1 ie1 W).mono fun e W' ⟨he, bel⟩ => ?_
  subst he
  exact ⟨_, rfl, _, _, _, [], _, [], hW', trodAll_mk1 (shut_bool Try.underlying4 _), (trodAll_cons_mk (Below.trod laidOut (by kernel_rfl) (of_decide_eq_true (by kernel_rfl)) k0 bel lt0) (trodAll_cons_mk (Below.trod laidOut (by kernel_rfl) (of_decide_eq_true (by kernel_rfl)) k1 bel lt1) trodAll_mk0)), rfl, bel.frame _, fun h => by cases h⟩

theorem crossMeets_holds : Rows.CrossMeetsSaid :=
  OpenClaim.holds_of_wide 10 Try.f10 rfl rfl rfl rfl rfl rfl rfl ⟨rfl, rfl, rfl, rfl, rfl⟩ rfl rfl rfl rfl rfl (by kernel_rfl) Try.func10 (by kernel_rfl)
    (of_decide_eq_true (by kernel_rfl)) (by unfold Func.isWrapper; rw [if_neg (by decide +kernel)]; exact ⟨rfl, rfl⟩)
    (fun os started H enc _ => crossMeets_lifted os started H enc)
#print axioms crossMeets_holds
end Go.Proofs.Ytlcbomjdbdgbmaa

