/- The statement CrossAlongSaid: for every input the law returns true, and its arguments read as before. Conditions: none. -/
import Derived.Test.YtlcbomjdbdgbmaaSCa6
import Derived.KernelRfl
import Derived.StillTail
import Derived.OrdersHeld
import Derived.Deep.Quiet
import Derived.Below
import Derived.WalkKit
import Derived.Test.YtlcbomjdbdgbmaaProg
import Derived.WalkSpells
import Derived.StillTactics
import Derived.Laws.Pointers
import Derived.Deep.RegionHeld3
import Derived.RowKit3
import Derived.Deep.QuietTactic
import Derived.BigQuiet
import Derived.BigRegion
import Derived.Lib.Hide
import Derived.WalkSmall
import Derived.Laws.BitsAllLaws
import Derived.IntWalk
import Derived.Deep.OwnRows
import Derived.Deep.LoopGhost
import Derived.Shelf.Bits.Mul64
import Derived.Test.YtlcbomjdbdgbmaaRows
import Derived.ProofKit
import Derived.OpenShut
import Derived.ShutString
import Derived.ChangeOld
import Derived.Lib.SmallJoins
import Derived.Laws.IdiomArrays
namespace Go.Proofs.Ytlcbomjdbdgbmaa
open Go.RowKit

theorem ahd_t {ax ay bx b_y : Int} (h : ahd ax ay bx b_y = true) : ax < bx ∨ ax = bx ∧ ay < b_y := by
  unfold ahd at h; simpa using h
theorem ahd_f {ax ay bx b_y : Int} (h : ahd ax ay bx b_y = false) : bx < ax ∨ ax = bx ∧ b_y ≤ ay := by
  unfold ahd at h; simp at h; omega
theorem ends_rev (ax ay bx b_y : Int) : lwx bx b_y ax ay = lwx ax ay bx b_y ∧ lwy bx b_y ax ay = lwy ax ay bx b_y ∧ hgx bx b_y ax ay = hgx ax ay bx b_y ∧ hgy bx b_y ax ay = hgy ax ay bx b_y := by
  cases h : ahd bx b_y ax ay
  · obtain ⟨e1, e2, e3, e4⟩ := ends_f h
    rw [e1, e2, e3, e4]
    cases h2 : ahd ax ay bx b_y
    · have g1 := ahd_f h
      have g2 := ahd_f h2
      obtain rfl : ax = bx := by omega
      obtain rfl : ay = b_y := by omega
      exact ends_f h
    · exact ends_t h2
  · obtain ⟨e1, e2, e3, e4⟩ := ends_t h
    rw [e1, e2, e3, e4]
    exact ends_f (ahd_asym h)
theorem sg_rev (ax ay bx b_y : Int) : sgR bx b_y ax ay = sgR ax ay bx b_y := by
  unfold sgR; cases rp ax ay <;> cases rp bx b_y <;> rfl
theorem dot_t {ax ay bx b_y : Int} (h : dotB ax ay bx b_y = true) : ax = bx ∧ ay = b_y := by
  unfold dotB at h
  by_cases h1 : ax = bx
  · by_cases h2 : ay = b_y
    · exact ⟨h1, h2⟩
    · simp [h1, h2] at h
  · simp [h1] at h
theorem dot_self (ax ay : Int) : dotB ax ay ax ay = true := by unfold dotB; simp
theorem dot_f {ax ay bx b_y : Int} (h : dotB ax ay bx b_y = false) : ¬(ax = bx ∧ ay = b_y) := by
  rintro ⟨rfl, rfl⟩; rw [dot_self] at h; cases h
theorem dot_rev (ax ay bx b_y : Int) : dotB bx b_y ax ay = dotB ax ay bx b_y := by
  cases h : dotB ax ay bx b_y
  · cases h2 : dotB bx b_y ax ay
    · rfl
    · obtain ⟨rfl, rfl⟩ := dot_t h2; rw [dot_self] at h; cases h
  · obtain ⟨rfl, rfl⟩ := dot_t h; exact dot_self _ _
theorem hold_rev (ax ay bx b_y x y v : Int) : hldB bx b_y ax ay x y v = hldB ax ay bx b_y x y v := by
  obtain ⟨e1, e2, e3, e4⟩ := ends_rev ax ay bx b_y
  simp only [hldB, sde, wyx, wyy, e1, e2, e3, e4, sg_rev ax ay bx b_y]
theorem way0_rev (ax ay bx b_y cx cy : Int) : (way bx b_y ax ay cx cy == 0) = (way ax ay bx b_y cx cy == 0) := by rw [way_swap, neg_eq0]

/-- the first segment told the other way -/
theorem mt_rev1 (ax ay bx b_y cx cy dx dy : Int) : mtk bx b_y ax ay cx cy dx dy = mtk ax ay bx b_y cx cy dx dy ∧ mtx bx b_y ax ay cx cy dx dy = mtx ax ay bx b_y cx cy dx dy ∧
    mty bx b_y ax ay cx cy dx dy = mty ax ay bx b_y cx cy dx dy ∧ mtw bx b_y ax ay cx cy dx dy = mtw ax ay bx b_y cx cy dx dy := by
  cases hd : dotB ax ay bx b_y
  · obtain ⟨e1, e2, e3, e4⟩ := ends_rev ax ay bx b_y
    have hd' : dotB bx b_y ax ay = false := (dot_rev ax ay bx b_y).trans hd
    have y1 : wyx bx b_y ax ay = wyx ax ay bx b_y := by unfold wyx; rw [e1, e3]
    have y2 : wyy bx b_y ax ay = wyy ax ay bx b_y := by unfold wyy; rw [e2, e4]
    have s1 : slp bx b_y ax ay cx cy dx dy = slp ax ay bx b_y cx cy dx dy := by simp only [slp, wyx, wyy, e1, e2, e3, e4, sg_rev ax ay bx b_y]
    have k1 : shk bx b_y ax ay cx cy dx dy = shk ax ay bx b_y cx cy dx dy := by simp only [shk, e1, e2, e3, e4]
    have k2 : shx bx b_y ax ay cx cy dx dy = shx ax ay bx b_y cx cy dx dy := by simp only [shx, e1, e2, e3, e4]
    have k3 : shy bx b_y ax ay cx cy dx dy = shy ax ay bx b_y cx cy dx dy := by simp only [shy, e1, e2, e3, e4]
    have k4 : shw bx b_y ax ay cx cy dx dy = shw ax ay bx b_y cx cy dx dy := by simp only [shw, e1, e2, e3, e4]
    have c1 : cgx bx b_y ax ay cx cy dx dy = cgx ax ay bx b_y cx cy dx dy := by unfold cgx; rw [y1, y2, e1, e2]
    have c2 : cgy bx b_y ax ay cx cy dx dy = cgy ax ay bx b_y cx cy dx dy := by unfold cgy; rw [y1, y2, e1, e2]
    have c3 : cgw bx b_y ax ay cx cy dx dy = cgw ax ay bx b_y cx cy dx dy := by unfold cgw; rw [y1, y2]
    refine ⟨?_, ?_, ?_, ?_⟩ <;>
      simp only [mtk, mtx, mty, mtw, sg_rev ax ay bx b_y, hd, hd', hold_rev ax ay bx b_y, s1, k1, k2, k3, k4, c1, c2, c3, way0_rev ax ay bx b_y, cond_false]
  · obtain ⟨rfl, rfl⟩ := dot_t hd
    exact ⟨rfl, rfl, rfl, rfl⟩

/-- of parallel ones both ends of the one lie alike to the other -/
theorem par_way {ax ay bx b_y cx cy dx dy : Int} (h1 : sgR ax ay bx b_y = true) (h2 : sgR cx cy dx dy = true) (h : (slp ax ay bx b_y cx cy dx dy == 0) = true) :
    way ax ay bx b_y dx dy = way ax ay bx b_y cx cy := by
  rw [slp_eq h1 h2] at h
  obtain ⟨a, b⟩ := sg_true h1
  obtain ⟨c, d⟩ := sg_true h2
  have h0 : wyx cx cy dx dy * wyy ax ay bx b_y - wyy cx cy dx dy * wyx ax ay bx b_y = 0 := Int.sign_eq_zero_iff_zero.1 (by simpa using h)
  have key : (dx - cx) * (b_y - ay) = (dy - cy) * (bx - ax) := by
    unfold wyx wyy at h0
    obtain ⟨p1, p2, p3, p4⟩ := ends_co h1
    obtain ⟨q1, q2, q3, q4⟩ := ends_co h2
    rw [co_wrap p3 p1, co_wrap p4 p2, co_wrap q3 q1, co_wrap q4 q2] at h0
    cases g1 : ahd bx b_y ax ay
    · obtain ⟨e1, e2, e3, e4⟩ := ends_f g1
      cases g2 : ahd dx dy cx cy
      · obtain ⟨f1, f2, f3, f4⟩ := ends_f g2
        rw [e1, e2, e3, e4, f1, f2, f3, f4] at h0; grind
      · obtain ⟨f1, f2, f3, f4⟩ := ends_t g2
        rw [e1, e2, e3, e4, f1, f2, f3, f4] at h0; grind
    · obtain ⟨e1, e2, e3, e4⟩ := ends_t g1
      cases g2 : ahd dx dy cx cy
      · obtain ⟨f1, f2, f3, f4⟩ := ends_f g2
        rw [e1, e2, e3, e4, f1, f2, f3, f4] at h0; grind
      · obtain ⟨f1, f2, f3, f4⟩ := ends_t g2
        rw [e1, e2, e3, e4, f1, f2, f3, f4] at h0; grind
  have t : trn ax ay bx b_y dx dy = trn ax ay bx b_y cx cy := by unfold trn; grind
  unfold way rp3
  rw [a, b, c, d, t]

/-- the second segment told the other way -/
theorem mt_rev2 (ax ay bx b_y cx cy dx dy : Int) : mtk ax ay bx b_y dx dy cx cy = mtk ax ay bx b_y cx cy dx dy ∧ mtx ax ay bx b_y dx dy cx cy = mtx ax ay bx b_y cx cy dx dy ∧
    mty ax ay bx b_y dx dy cx cy = mty ax ay bx b_y cx cy dx dy ∧ mtw ax ay bx b_y dx dy cx cy = mtw ax ay bx b_y cx cy dx dy := by
  cases hd : dotB cx cy dx dy
  · obtain ⟨e1, e2, e3, e4⟩ := ends_rev cx cy dx dy
    have hd' : dotB dx dy cx cy = false := (dot_rev cx cy dx dy).trans hd
    cases r1 : sgR ax ay bx b_y
    · refine ⟨?_, ?_, ?_, ?_⟩ <;> simp only [mtk, mtx, mty, mtw, r1, cond_false]
    cases r2 : sgR cx cy dx dy
    · have r2' : sgR dx dy cx cy = false := (sg_rev cx cy dx dy).trans r2
      refine ⟨?_, ?_, ?_, ?_⟩ <;> simp only [mtk, mtx, mty, mtw, r1, r2, r2', cond_false]
    have r2' : sgR dx dy cx cy = true := (sg_rev cx cy dx dy).trans r2
    have y1 : wyx dx dy cx cy = wyx cx cy dx dy := by unfold wyx; rw [e1, e3]
    have y2 : wyy dx dy cx cy = wyy cx cy dx dy := by unfold wyy; rw [e2, e4]
    have s1 : slp ax ay bx b_y dx dy cx cy = slp ax ay bx b_y cx cy dx dy := by simp only [slp, wyx, wyy, e1, e2, e3, e4, sg_rev cx cy dx dy]
    have k1 : shk ax ay bx b_y dx dy cx cy = shk ax ay bx b_y cx cy dx dy := by simp only [shk, e1, e2, e3, e4]
    have k2 : shx ax ay bx b_y dx dy cx cy = shx ax ay bx b_y cx cy dx dy := by simp only [shx, e1, e2, e3, e4]
    have k3 : shy ax ay bx b_y dx dy cx cy = shy ax ay bx b_y cx cy dx dy := by simp only [shy, e1, e2, e3, e4]
    have k4 : shw ax ay bx b_y dx dy cx cy = shw ax ay bx b_y cx cy dx dy := by simp only [shw, e1, e2, e3, e4]
    have c1 : cgx ax ay bx b_y dx dy cx cy = cgx ax ay bx b_y cx cy dx dy := by unfold cgx; rw [y1, y2, e1, e2]
    have c2 : cgy ax ay bx b_y dx dy cx cy = cgy ax ay bx b_y cx cy dx dy := by unfold cgy; rw [y1, y2, e1, e2]
    have c3 : cgw ax ay bx b_y dx dy cx cy = cgw ax ay bx b_y cx cy dx dy := by unfold cgw; rw [y1, y2]
    cases hs : (slp ax ay bx b_y cx cy dx dy == 0)
    · refine ⟨?_, ?_, ?_, ?_⟩ <;>
        simp only [mtk, mtx, mty, mtw, r1, r2, r2', hd, hd', hold_rev cx cy dx dy, s1, hs, c1, c2, c3, cond_false, cond_true]
    · have w1 := par_way r1 r2 hs
      refine ⟨?_, ?_, ?_, ?_⟩ <;>
        simp only [mtk, mtx, mty, mtw, r1, r2, r2', hd, hd', hold_rev cx cy dx dy, s1, hs, k1, k2, k3, k4, w1, cond_false, cond_true]
  · obtain ⟨rfl, rfl⟩ := dot_t hd
    exact ⟨rfl, rfl, rfl, rfl⟩

theorem cmpP_self' (a b : Int) : cmpP a b a b = 0 := by unfold cmpP; rw [cmpI_eq, cmpI_eq]; rfl
theorem cmpP_lt' {ax ay bx b_y : Int} (h : ahd ax ay bx b_y = true) : cmpP ax ay bx b_y = -1 := by
  unfold cmpP or2
  rcases ahd_t h with g | ⟨rfl, g⟩
  · rw [cmpI_lt g]; rfl
  · rw [cmpI_eq, cmpI_lt g]; rfl

/-- a segment meets itself -/
theorem mt_self0 {ax ay bx b_y : Int} (h : sgR ax ay bx b_y = false) : mtk ax ay bx b_y ax ay bx b_y = 0 := by simp only [mtk, h, cond_false]
theorem hold_own {ax ay : Int} (h : rp ax ay = true) : hldB ax ay ax ay (atx ax ay) (aty ax ay) (atw ax ay) = true := by
  obtain ⟨e1, e2, e3⟩ := at_eqs h
  rw [e1, e2, e3, hld_eq (by unfold sgR; rw [h]; rfl) (at_ok h)]
  unfold rhld rsde rspC rAtx rAty rAtw
  have a0 : ahd ax ay ax ay = false := by unfold ahd; simp
  have w0 : wrap64 (ax - ax) = 0 := by rw [Int.sub_self]; exact wrap64_id i64_0
  have w1 : wrap64 (ay - ay) = 0 := by rw [Int.sub_self]; exact wrap64_id i64_0
  rw [a0, w0, w1, Int.zero_mul, Int.zero_mul, cmpI_eq, cmpI_eq]; rfl
theorem mt_self1 {ax ay : Int} (h : sgR ax ay ax ay = true) : mtk ax ay ax ay ax ay ax ay = 1 := by
  simp only [mtk, h, dot_self, hold_own (sg_true h).1, cond_true]
theorem mt_self2 {ax ay bx b_y : Int} (h : sgR ax ay bx b_y = true) (hd : dotB ax ay bx b_y = false) : mtk ax ay bx b_y ax ay bx b_y = 2 := by
  have hs : (slp ax ay bx b_y ax ay bx b_y == 0) = true := by
    rw [slp_eq h h, Int.mul_comm (wyx ax ay bx b_y), Int.sub_self]; rfl
  have hw : (way ax ay bx b_y ax ay == 0) = true := by
    unfold way
    rw [show trn ax ay bx b_y ax ay = 0 by unfold trn; grind]
    cases rp3 ax ay bx b_y ax ay <;> rfl
  have hl : ahd (lwx ax ay bx b_y) (lwy ax ay bx b_y) (hgx ax ay bx b_y) (hgy ax ay bx b_y) = true := by
    cases g : ahd bx b_y ax ay
    · obtain ⟨e1, e2, e3, e4⟩ := ends_f g
      rw [e1, e2, e3, e4]
      cases g2 : ahd ax ay bx b_y
      · have := ahd_f g
        have := ahd_f g2
        exact absurd ⟨by omega, by omega⟩ (dot_f hd)
      · rfl
    · obtain ⟨e1, e2, e3, e4⟩ := ends_t g
      rw [e1, e2, e3, e4]; exact g
  have hk : shk ax ay bx b_y ax ay bx b_y = 2 := by
    simp only [shk, cmpP_self', cmpP_lt' hl]; rfl
  simp only [mtk, h, hd, hs, hw, hk, cond_true, cond_false]
end Go.Proofs.Ytlcbomjdbdgbmaa

namespace Go.Proofs.Ytlcbomjdbdgbmaa
open Go.RowKit

theorem spC_self (x y v : Int) : spC x y v x y v = 0 := by
  cases h : rspR x y v
  · exact spC_0 (.inl h)
  · rw [spC_eq h h]; unfold rspC; rw [cmpI_eq, cmpI_eq]; rfl
theorem CAlong_any (ax ay bx b_y cx cy dx dy : Int) (h1 : In64 ax) (h2 : In64 ay) (h3 : In64 bx) (h4 : In64 b_y) (h5 : In64 cx) (h6 : In64 cy) (h7 : In64 dx) (h8 : In64 dy) (w : World) :
    Calls Try.prog 13 #[.agg #[.int .i64 ax, .int .i64 ay, .int .i64 bx, .int .i64 b_y], .agg #[.int .i64 cx, .int .i64 cy, .int .i64 dx, .int .i64 dy]] w fun e w' => e = .returned (.bool true) ∧ Below w.heap.size w w' := by
  obtain ⟨a1, a2, a3, a4⟩ := mt_rev2 ax ay bx b_y cx cy dx dy
  obtain ⟨b1, b2, b3, b4⟩ := mt_rev1 ax ay bx b_y cx cy dx dy
  obtain ⟨c1, c2, c3, c4⟩ := mt_rev1 ax ay bx b_y dx dy cx cy
  have ix := mtx_in ax ay bx b_y cx cy dx dy h1 h2 h3 h4 h5 h6 h7 h8
  have iy := mty_in ax ay bx b_y cx cy dx dy h1 h2 h3 h4 h5 h6 h7 h8
  have iw := mtw_in ax ay bx b_y cx cy dx dy h1 h2 h3 h4 h5 h6 h7 h8
  cases hs : sgR ax ay bx b_y
  · exact CAlong_A ax ay bx b_y cx cy dx dy _ _ _ _ _ _ _ rfl rfl rfl rfl a1 a2 a3 a4 b1 b2 b3 b4 (c1.trans a1) (c2.trans a2) (c3.trans a3) (c4.trans a4) (spC_self _ _ _) hs (mt_self0 hs) rfl rfl rfl ix iy iw h1 h2 h3 h4 h5 h6 h7 h8 w
  · cases hd : dotB ax ay bx b_y
    · have hn := dot_f hd
      by_cases hx : ax = bx
      · subst hx
        exact CAlong_L2 ax ay b_y cx cy dx dy _ _ _ _ _ _ _ rfl rfl rfl rfl a1 a2 a3 a4 b1 b2 b3 b4 (c1.trans a1) (c2.trans a2) (c3.trans a3) (c4.trans a4) (spC_self _ _ _) hs (mt_self2 hs hd) rfl rfl rfl (by simpa using fun e => hn ⟨rfl, e⟩) ix iy iw h1 h2 h4 h5 h6 h7 h8 w
      · exact CAlong_L1 ax ay bx b_y cx cy dx dy _ _ _ _ _ _ _ rfl rfl rfl rfl a1 a2 a3 a4 b1 b2 b3 b4 (c1.trans a1) (c2.trans a2) (c3.trans a3) (c4.trans a4) (spC_self _ _ _) hs (mt_self2 hs hd) rfl rfl rfl (by simpa using hx) ix iy iw h1 h2 h3 h4 h5 h6 h7 h8 w
    · obtain ⟨rfl, rfl⟩ := dot_t hd
      exact CAlong_D ax ay cx cy dx dy _ _ _ _ _ _ _ rfl rfl rfl rfl a1 a2 a3 a4 (spC_self _ _ _) hs (mt_self1 hs) rfl rfl rfl ix iy iw h1 h2 h5 h6 h7 h8 w
end Go.Proofs.Ytlcbomjdbdgbmaa

namespace Go.Proofs.Ytlcbomjdbdgbmaa
open Go.ChangeShapes Go.WideShapes Go.ChangeAt Go.RowKit Go.Joins
section
variable {H : Type} {enc : TypeId × Value → H} {w : World} {base : Nat} {spare : Nat → Bool} {held : Bool}
set_option maxRecDepth 100000 in
theorem open_seg {r : Reach} {b0 : Nat} {v : Value} {d : DataW H} {p : List MemPlace} (hv : Value.okWide Try.prog w r b0 50 v) (h : DataW.Trod enc Try.prog w base spare held 50 v d p) :
    ∃ a b c d, In64 a ∧ In64 b ∧ In64 c ∧ In64 d ∧ v = .agg #[.int .i64 a, .int .i64 b, .int .i64 c, .int .i64 d] := by
  obtain ⟨cs, rfl, hsz⟩ := okWide_struct Try.underlying50 hv
  have hC : Try.prog.cellsOf 50 = 4 := by kernel_rfl
  obtain ⟨l⟩ := cs
  match l, hsz.trans hC with
  | [c0, c1, c2, c3], _ =>
    obtain ⟨fuel, hf⟩ := h
    obtain ⟨xs, k, _, hx, _, hlen, hg⟩ := DataW.trod_struct Try.underlying50 hf
    have hC2 : Try.prog.cellsOf 24 = 2 := by kernel_rfl
    match xs, hlen with
    | [y0, y1], _ =>
      have g0 := hg 0 _ rfl
      have g1 := hg 1 _ rfl
      simp [Value.cells, hC2] at g0 g1
      obtain ⟨a, b, ia, ib, rfl, rfl⟩ := open_pt2 g0
      obtain ⟨c, d, ic, id, rfl, rfl⟩ := open_pt2 g1
      exact ⟨a, b, c, d, ia, ib, ic, id, rfl⟩
end
end Go.Proofs.Ytlcbomjdbdgbmaa

namespace Go.Proofs.Ytlcbomjdbdgbmaa
open Go.ChangeShapes Go.WideShapes Go.ChangeAt Go.RowKit

set_option maxRecDepth 100000 in
set_option maxHeartbeats 1000000 in
theorem crossAlong_lifted (os : Os) (started : os.Started) (H : Type) (enc : TypeId × Value → H) :
    ReturnsInHanded {} Try.checked os 13 .any (Rows.crossAlongSpec.pre6 enc Try.prog Try.f13 Rows.crossAlongRow.domain false) (Rows.crossAlongSpec.post enc Try.prog Try.f13 false true false false) := by
  refine returnsInHanded_of_change (C := Try.checked) own started (by kernel_rfl) Try.func13
    (ChangeSpec.witness6 (enc := enc) (C := Try.checked) false ⟨#[], #[.agg #[.int .i64 0, .int .i64 0, .int .i64 0, .int .i64 0], .agg #[.int .i64 0, .int .i64 0, .int .i64 0, .int .i64 0]], []⟩ 8 (by kernel_rfl) (by kernel_rfl) (by kernel_rfl) (by kernel_rfl)) ?_
  intro W base args ds gs before hval0 hW hcnd _
  have hval : ∀ (j : Nat) t v, Try.f13.params[j]? = some t → args[j]? = some v → Value.okWide Try.prog W .any base t v := hval0
  have hW' := hW
  obtain ⟨p, q, hA0, hV, rfl, hfz, hnd⟩ := hW
  have hA : DataW.TrodAll enc Try.prog W 0 (fun _ => true) true Try.f13.params.toList args.toList ds p := hA0
  rw [Try.params13] at hA hval
  obtain ⟨v0, vs0, d0, ds0, p0, q0, hargs, rfl, rfl, h0, r0⟩ := trodAll_cons hA
  obtain ⟨v1, vs1, d1, ds1, p1, q1, rfl, rfl, rfl, h1, r1⟩ := trodAll_cons r0
  obtain ⟨rfl, rfl, rfl⟩ := trodAll_nil r1
  obtain rfl : args = #[v0, v1] := by cases args; simp_all
  obtain ⟨rfl, rfl⟩ := trodVars_none hV
  have k0 := h0
  have lt0 : ∀ x ∈ p0, x.block < W.heap.size := by obtain ⟨m, hm⟩ := k0; exact DataW.trod_lt m _ _ _ hm
  obtain ⟨a0, b0, c0, e0, ia0, ib0, ic0, ie0, rfl⟩ := open_seg (hval 0 50 v0 rfl rfl) h0
  have k1 := h1
  have lt1 : ∀ x ∈ p1, x.block < W.heap.size := by obtain ⟨m, hm⟩ := k1; exact DataW.trod_lt m _ _ _ hm
  obtain ⟨a1, b1, c1, e1, ia1, ib1, ic1, ie1, rfl⟩ := open_seg (hval 1 50 v1 rfl rfl) h1
  clear hA0 hval0
  refine (CAlong_any a0 b0 c0 e0 a1 b1 c1 e1 ia0 ib0 ic0 ie0 ia1 ib1 ic1 ie1 W).mono fun e W' ⟨he, bel⟩ => ?_
  subst he
  exact ⟨_, rfl, _, _, _, [], _, [], hW', trodAll_mk1 (shut_bool Try.underlying4 _), (trodAll_cons_mk (Below.trod laidOut (by kernel_rfl) (of_decide_eq_true (by kernel_rfl)) k0 bel lt0) (trodAll_cons_mk (Below.trod laidOut (by kernel_rfl) (of_decide_eq_true (by kernel_rfl)) k1 bel lt1) trodAll_mk0)), rfl, bel.frame _, fun h => by cases h⟩

theorem crossAlong_holds : Rows.CrossAlongSaid :=
  OpenClaim.holds_of_wide 13 Try.f13 rfl rfl rfl rfl rfl rfl rfl ⟨rfl, rfl, rfl, rfl, rfl⟩ rfl rfl rfl rfl rfl (by kernel_rfl) Try.func13 (by kernel_rfl)
    (of_decide_eq_true (by kernel_rfl)) (by unfold Func.isWrapper; rw [if_neg (by decide +kernel)]; exact ⟨rfl, rfl⟩)
    (fun os started H enc _ => crossAlong_lifted os started H enc)
#print axioms crossAlong_holds
end Go.Proofs.Ytlcbomjdbdgbmaa

