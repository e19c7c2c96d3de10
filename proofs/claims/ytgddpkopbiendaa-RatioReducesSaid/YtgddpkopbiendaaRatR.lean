/- The walk of gromalaw02's RatioReduces. Conditions: the numbers are numbers of 256 bits. -/
import Derived.Test.YtgddpkopbiendaaRatM
namespace Go.Proofs.Ytgddpkopbiendaa
open Go.RowKit

theorem BRat.mono {w : World} {v : Value} {n d : Int} {L L' : Nat} (h : BRat w v n d L) (hl : L ≤ L') : BRat w v n d L' := by
  obtain ⟨n1, a1, l1, c1, n2, a2, l2, c2, h1, h2, h3⟩ := h
  exact ⟨n1, a1, l1, c1, n2, a2, l2, c2, h1, h2.mono hl, h3.mono hl⟩
theorem Div_gen (x y : Int) (w : World) (ix : InI x) (iy : InI y) (o : Bool) (ho : dvOk x y = o) (q r : Int) (hq : (bif o then fq x y else 0) = q) (hr : (bif o then fr x y else 0) = r) :
    Calls Try.prog 35 #[wI x, wI y] w fun e w' => e = .returned (.tuple #[wI q, wI r, .bool o]) ∧ Below w.heap.size w w' := by
  have T := Div_any x y w ix iy
  rw [ho] at T
  cases o
  · rw [cond_false] at T hq hr; subst hq; subst hr; exact T
  · rw [cond_true] at T hq hr; subst hq; subst hr; exact T

theorem red_by {N D b : Int} (hg : Int.gcd N D = 1) (r1 : fr N b = 0) (r2 : fr D b = 0) : b = 1 ∨ b = -1 := by
  have e1 := fq_fr N b
  have e2 := fq_fr D b
  rw [r1, Int.add_zero] at e1
  rw [r2, Int.add_zero] at e2
  have d1 : b ∣ N := ⟨fq N b, by rw [Int.mul_comm]; exact e1.symm⟩
  have d2 : b ∣ D := ⟨fq D b, by rw [Int.mul_comm]; exact e2.symm⟩
  have h := Int.dvd_coe_gcd d1 d2
  rw [hg] at h
  have h1 := Int.natAbs_dvd_natAbs.2 h
  have h2 : b.natAbs = 1 := Nat.dvd_one.1 h1
  omega

set_option maxRecDepth 100000 in
set_option maxHeartbeats 4000000 in
theorem Reduces_no (n d by' : Int) (w : World) (ix : InI n) (iy : InI d) (hr : decide (0 < d) = false) :
    Calls Try.prog 5 #[rI n d, wI by'] w fun e w' => e = .returned (.bool true) ∧ Below w.heap.size w w' := by
  have HR := Lib.hid hr
  clear hr
  go_enter Try.func5, Try.ntmps5
  go_wp2_with fail
  refine calls_w ?_
  intro W hW
  have kr : RVar W w.heap.size n d := by rw [hW]; exact (Blk.new _ _ _).alloc _
  have hb : Below w.heap.size w W := by rw [hW]; exact below_a2 _ _ _
  clear hW
  refine (Reduced_any n d _ ix iy false HR.out).mono ?_
  rintro e u1 ⟨rfl, hn⟩
  replace kr := kr.of hn
  replace hb := hb.trans (hn.mono hb.size)
  clear hn 
  have c := RVar.c kr
  have l0 := kr.lt
  go_wp2_with fail
  refine calls_w ?_
  intro V1 hV
  have hv : Below u1.heap.size u1 V1 := by rw [hV]; exact below_a1 _ _
  replace kr := kr.of hv
  replace hb := hb.trans (hv.mono hb.size)
  have kb : RVar V1 u1.heap.size 0 0 := by rw [hV]; exact Blk.new _ _ _
  clear hV hv
  clear c l0
  refine (right_is n d _ iy false HR.out).mono ?_
  rintro e u2 ⟨rfl, hn⟩
  replace kr := kr.of hn
  replace kb := kb.of hn
  replace hb := hb.trans (hn.mono hb.size)
  clear hn 
  have c := RVar.c kb
  have e4 : eq4 (wd0 0) (wd1 0) (wd2 0) (wd3 0) 0 0 0 0 = true := by decide
  go_wp2_with fail
  refine (awake_any _).mono ?_
  rintro e u3 ⟨rfl, hn⟩
  replace kr := kr.of hn
  replace kb := kb.of hn
  replace hb := hb.trans (hn.mono hb.size)
  clear hn c e4
  go_wp2
  go_ret
  exact ⟨rfl, hb⟩

set_option maxRecDepth 100000 in
set_option maxHeartbeats 4000000 in
theorem Reduces_yes (n d by' : Int) (w : World) (ix : InI n) (iy : InI d) (iz : InI by') (hr : decide (0 < d) = true) :
    Calls Try.prog 5 #[rI n d, wI by'] w fun e w' => e = .returned (.bool true) ∧ Below w.heap.size w w' := by
  have hd0 : 0 < d := of_decide_eq_true hr
  obtain ⟨g1, g2, g3, g4, g5⟩ := gcd_one (a := n) hd0
  obtain ⟨N, hN⟩ : ∃ N, N = n / (Int.gcd n d : Int) := ⟨_, rfl⟩
  obtain ⟨D, hD⟩ : ∃ D, D = d / (Int.gcd n d : Int) := ⟨_, rfl⟩
  have T0 := fun w => Reduced_any n d w ix iy true hr
  have iN : InI N := hN ▸ ediv_in ix g3
  have iD : InI D := hD ▸ ediv_in iy g3
  rw [← hN, ← hD] at g1 g5 T0
  rw [← hD] at g2
  have hrD : decide (0 < D) = true := decide_eq_true g2
  have T1 := fun w => Reduced_any N D w iN iD true hrD
  rw [g1] at T1
  have e1 : N / ((1 : Nat) : Int) = N := Int.ediv_one N
  have e2 : D / ((1 : Nat) : Int) = D := Int.ediv_one D
  rw [e1, e2] at T1
  have hcmp : cmpI (n * D) (N * d) = 0 := by rw [g5, Int.mul_comm D n]; exact cmpI_eq _
  have hhalf : ¬ (N % 2 = 0 ∧ D % 2 = 0) := by
    rintro ⟨h1, h2⟩
    have h := Int.dvd_coe_gcd (Int.dvd_of_emod_eq_zero h1) (Int.dvd_of_emod_eq_zero h2)
    rw [g1] at h
    omega
  obtain ⟨z1, hz1⟩ : ∃ z1, decide (N % 2 = 0) = z1 := ⟨_, rfl⟩
  obtain ⟨z2, hz2⟩ : ∃ z2, decide (D % 2 = 0) = z2 := ⟨_, rfl⟩
  have hzz : (z1 && z2) = false := by
    rw [← hz1, ← hz2]
    cases h1 : decide (N % 2 = 0) <;> cases h2 : decide (D % 2 = 0) <;> first | rfl | exact absurd ⟨of_decide_eq_true h1, of_decide_eq_true h2⟩ hhalf
  obtain ⟨o1, ho1⟩ : ∃ o, dvOk N by' = o := ⟨_, rfl⟩
  obtain ⟨o2, ho2⟩ : ∃ o, dvOk D by' = o := ⟨_, rfl⟩
  obtain ⟨q1, hq1⟩ : ∃ q, (bif o1 then fq N by' else 0) = q := ⟨_, rfl⟩
  obtain ⟨q2, hq2⟩ : ∃ q, (bif o2 then fq D by' else 0) = q := ⟨_, rfl⟩
  obtain ⟨r1, hr1⟩ : ∃ q, (bif o1 then fr N by' else 0) = q := ⟨_, rfl⟩
  obtain ⟨r2, hr2⟩ : ∃ q, (bif o2 then fr D by' else 0) = q := ⟨_, rfl⟩
  obtain ⟨y1, hy1⟩ : ∃ y, eq4 (wd0 r1) (wd1 r1) (wd2 r1) (wd3 r1) 0 0 0 0 = y := ⟨_, rfl⟩
  obtain ⟨y2, hy2⟩ : ∃ y, eq4 (wd0 r2) (wd1 r2) (wd2 r2) (wd3 r2) 0 0 0 0 = y := ⟨_, rfl⟩
  obtain ⟨sm, hsm⟩ : ∃ s, decide (In64 by') = s := ⟨_, rfl⟩
  have hfin : o1 = true → o2 = true → y1 = true → y2 = true → sm = true ∧ (by' = 1 ∨ by' = -1) := by
    intro p1 p2 p3 p4
    subst p1; subst p2; subst p3; subst p4
    rw [cond_true] at hr1 hr2
    have i0 : InI r1 ∧ InI r2 := by
      have hne : by' ≠ 0 := by
        intro h; rw [h] at ho1; simp [dvOk] at ho1
      rcases Int.lt_or_gt_of_ne hne with h | h
      · have a1 := fr_neg (x := N) h; have a2 := fr_neg (x := D) h
        obtain ⟨b1, b2⟩ := iz
        unfold InI b255 at *; omega
      · have a1 := fr_pos (x := N) h; have a2 := fr_pos (x := D) h
        obtain ⟨b1, b2⟩ := iz
        unfold InI b255 at *; omega
    rw [eq4_0, decide_eq_true_iff] at hy1 hy2
    have a1 : r1 = 0 := by obtain ⟨b1, b2⟩ := i0.1; unfold b255 b256 at *; omega
    have a2 : r2 = 0 := by obtain ⟨b1, b2⟩ := i0.2; unfold b255 b256 at *; omega
    have h := red_by g1 (hr1.trans a1) (hr2.trans a2)
    refine ⟨?_, h⟩
    rw [← hsm]
    refine decide_eq_true ?_
    unfold In64; omega
  have HT0 := Lib.hid T0
  have HT1 := Lib.hid T1
  have HC := Lib.hid hcmp
  have HZ1 := Lib.hid hz1
  have HZ2 := Lib.hid hz2
  have HZZ := Lib.hid hzz
  have HO1 := Lib.hid ho1
  have HO2 := Lib.hid ho2
  have HQ1 := Lib.hid hq1
  have HQ2 := Lib.hid hq2
  have HR1 := Lib.hid hr1
  have HR2 := Lib.hid hr2
  have HY1 := Lib.hid hy1
  have HY2 := Lib.hid hy2
  have HSM := Lib.hid hsm
  have HF := Lib.hid hfin
  have HRD := Lib.hid hrD
  have HR := Lib.hid hr
  clear hr hd0 g1 g2 g3 g4 g5 hN hD T0 T1 hrD e1 e2 hcmp hhalf hz1 hz2 hzz ho1 ho2 hq1 hq2 hr1 hr2 hy1 hy2 hsm hfin
  go_enter Try.func5, Try.ntmps5
  go_wp2_with fail
  refine calls_w ?_
  intro W hW
  have kr : RVar W w.heap.size n d := by rw [hW]; exact (Blk.new _ _ _).alloc _
  have ky : Var W (w.heap.size + 1) by' := by rw [hW]; exact Blk.new1 _ _ _ _
  have hb0 : Below w.heap.size w W := by rw [hW]; exact below_a2 _ _ _
  clear hW
  refine (HT0.out _).mono ?_
  rintro e u1 ⟨rfl, hn⟩
  replace kr := kr.of hn
  replace ky := ky.of hn
  replace hb0 := hb0.trans (hn.mono hb0.size)
  clear hn 
  have c := RVar.c kr
  have l0 := kr.lt
  go_wp2_with fail
  refine calls_w ?_
  intro V1 hV
  have hv : Below u1.heap.size u1 V1 := by rw [hV]; exact below_a1 _ _
  replace kr := kr.of hv
  replace ky := ky.of hv
  replace hb0 := hb0.trans (hv.mono hb0.size)
  have kb : RVar V1 u1.heap.size N D := by rw [hV]; exact Blk.new _ _ _
  clear hV hv
  clear c l0
  refine (right_is n d _ iy true HR.out).mono ?_
  rintro e u2 ⟨rfl, hn⟩
  replace kr := kr.of hn
  replace ky := ky.of hn
  replace kb := kb.of hn
  replace hb0 := hb0.trans (hn.mono hb0.size)
  clear hn 
  go_wp2_with fail
  have c := RVar.c kr
  have cb := RVar.c kb
  have lr := kr.lt
  have lb := kb.lt
  have KR := Lib.hid kr
  have KB := Lib.hid kb
  have KY := Lib.hid ky
  clear kr kb ky
  refine wp_region_up u2.heap.size 11 [(true, 0), (true, 1), (true, 2), (true, 3), (false, 4), (true, 5), (true, 6), (true, 7), (true, 8), (true, 10), (false, 9)] (by kernel_rfl) (by kernel_rfl) (fun _ _ d _ _ h => by cases d <;> exact h) ?_
  have hb : Below u2.heap.size u2 u2.drew := (Below.refl _ _).drew
  iterate 4
    refine wpS_takeL rfl rfl ?_
    go_big_quiet_step (rfl)
    refine wpQuiet_nil ?_
  refine wpS_doL rfl ?_
  intro K hK
  go_wp2_with ((first | (go_at_call 17; refine (right_is N D _ iD true HRD.out).mono ?_; rintro e wa ⟨rfl, hn⟩) | (go_at_call 20; (with_reducible refine (ref_any n d _ ix iy).mono ?_); rintro e wb ⟨vm, rfl, hbm, hn⟩; have HA := Lib.hid hbm; obtain ⟨m1, a1, l1, p1, m2, a2, l2, p2, rfl, _⟩ := hbm)))
  try replace hb := hb.trans (hn.mono hb.size)
  refine hK.out _ _ (up_iff.2 hb) ?_
  clear hK K
  try clear hn
  iterate 5
    refine wpS_takeL rfl rfl ?_
    go_big_quiet_step (rfl)
    refine wpQuiet_nil ?_
  refine wpS_doL rfl ?_
  intro K hK
  go_wp2_with ((first | (go_at_call 17; refine (right_is N D _ iD true HRD.out).mono ?_; rintro e wa ⟨rfl, hn⟩) | (go_at_call 20; (with_reducible refine (ref_any n d _ ix iy).mono ?_); rintro e wb ⟨vm, rfl, hbm, hn⟩; have HA := Lib.hid hbm; obtain ⟨m1, a1, l1, p1, m2, a2, l2, p2, rfl, _⟩ := hbm)))
  try replace hb := hb.trans (hn.mono hb.size)
  refine hK.out _ _ (up_iff.2 hb) ?_
  clear hK K
  try clear hn
  refine wpS_nil ?_
  simp only [List.drop_succ_cons, List.drop_zero]
  have kr : RVar wb w.heap.size n d := KR.out.of hb
  have kb : RVar wb u1.heap.size N D := KB.out.of hb
  have ky : Var wb (w.heap.size + 1) by' := KY.out.of hb
  replace hb0 := hb0.trans (hb.mono hb0.size)
  clear KR KB KY hb c cb lr lb
  have cb := RVar.c kb
  go_wp2_with fail
  refine (ref_any N D _ iN iD).mono ?_
  rintro e wc ⟨vm, rfl, hbm, hn⟩
  replace kr := kr.of hn
  replace kb := kb.of hn
  replace ky := ky.of hn
  replace HA := Lib.hid (HA.out.of hn)
  replace hb0 := hb0.trans (hn.mono hb0.size)
  have HB := Lib.hid hbm
  obtain ⟨m3, a3, l3, p3, m4, a4, l4, p4, rfl, _⟩ := hbm
  clear hn cb
  go_wp2_with fail
  have T := refCmp_any _ _ n d N D _ (HA.out.mono (by decide : 18 ≤ 40)) (HB.out.mono (by decide : 18 ≤ 40))
  rw [HC.out] at T
  refine T.mono ?_
  clear T
  rintro e wd ⟨rfl, hn⟩
  replace kr := kr.of hn
  replace kb := kb.of hn
  replace ky := ky.of hn
  replace HA := Lib.hid (HA.out.of hn)
  replace hb0 := hb0.trans (hn.mono hb0.size)
  clear hn HA HB
  have cb := RVar.c kb
  have lb := kb.lt
  go_wp2_with fail
  refine (ref_any N D _ iN iD).mono ?_
  rintro e we ⟨vm, rfl, hbm, hn⟩
  replace kr := kr.of hn
  replace kb := kb.of hn
  replace ky := ky.of hn
  replace hb0 := hb0.trans (hn.mono hb0.size)
  obtain ⟨m1, a1, l1, p1, m2, a2, l2, p2, rfl, hx1, hx2⟩ := hbm
  have X1 := Lib.hid hx1
  have X2 := Lib.hid hx2
  clear hn cb lb hx1 hx2
  go_wp2_with fail
  refine calls_w ?_
  intro V2 hV
  have hv : Below we.heap.size we V2 := by rw [hV]; exact below_a1 _ _
  replace kr := kr.of hv
  replace kb := kb.of hv
  replace ky := ky.of hv
  replace X1 := Lib.hid (X1.out.of hv)
  replace X2 := Lib.hid (X2.out.of hv)
  replace hb0 := hb0.trans (hv.mono hb0.size)
  have kx : BRVar V2 we.heap.size m1 a1 l1 p1 m2 a2 l2 p2 := by rw [hV]; exact Blk.new _ _ _
  clear hV hv
  refine (Halves_any _ N 18 _ X1.out z1 HZ1.out).mono ?_
  rintro e wf ⟨rfl, hn⟩
  replace kr := kr.of hn
  replace kb := kb.of hn
  replace ky := ky.of hn
  replace kx := kx.of hn
  replace X1 := Lib.hid (X1.out.of hn)
  replace X2 := Lib.hid (X2.out.of hn)
  replace hb0 := hb0.trans (hn.mono hb0.size)
  clear hn 
  have cx := BRVar.c kx
  have cb := RVar.c kb
  have lb := kb.lt
  have HYY := HZZ.out
  cases z1
  · go_wp2_with fail
    clear cx HYY
    refine (HT1.out _).mono ?_
    rintro e wg1 ⟨rfl, hn⟩
    replace kr := kr.of hn
    replace kb := kb.of hn
    replace ky := ky.of hn
    replace kx := kx.of hn
    replace hb0 := hb0.trans (hn.mono hb0.size)
    clear hn 
    clear cb lb
    have cb := RVar.c kb
    have lb := kb.lt
    have cy := Var.c ky
    have ly := ky.lt
    have e1 := eq4_same (wd0 N) (wd1 N) (wd2 N) (wd3 N)
    have e2 := eq4_same (wd0 D) (wd1 D) (wd2 D) (wd3 D)
    go_wp2_with fail
    refine calls_w ?_
    intro V3 hV
    have hv : Below wg1.heap.size wg1 V3 := by rw [hV]; exact below_a1 _ _
    replace kr := kr.of hv
    replace kb := kb.of hv
    replace ky := ky.of hv
    replace kx := kx.of hv
    replace hb0 := hb0.trans (hv.mono hb0.size)
    clear hV hv
    clear e1 e2 cb lb cy ly
    refine (Div_gen N by' _ iN iz o1 HO1.out q1 r1 HQ1.out HR1.out).mono ?_
    rintro e wg2 ⟨rfl, hn⟩
    replace kr := kr.of hn
    replace kb := kb.of hn
    replace ky := ky.of hn
    replace kx := kx.of hn
    replace hb0 := hb0.trans (hn.mono hb0.size)
    clear hn 
    have cb := RVar.c kb
    have lb := kb.lt
    have lb2 : u1.heap.size < wg2.heap.size + 1 := by omega
    have cy := Var.c ky
    have ly := ky.lt
    have ly2 : w.heap.size < wg2.heap.size := by omega
    go_wp2_with fail
    refine calls_w ?_
    intro V4 hV
    have hv : Below wg2.heap.size wg2 V4 := by rw [hV]; exact below_a2 _ _ _
    replace kr := kr.of hv
    replace kb := kb.of hv
    replace ky := ky.of hv
    replace kx := kx.of hv
    replace hb0 := hb0.trans (hv.mono hb0.size)
    have k1 : Var V4 (wg2.heap.size + 1) r1 := by rw [hV]; exact Blk.new1 _ _ _ _
    clear hV hv
    clear cb lb lb2 cy ly ly2
    refine (Div_gen D by' _ iD iz o2 HO2.out q2 r2 HQ2.out HR2.out).mono ?_
    rintro e wg3 ⟨rfl, hn⟩
    replace kr := kr.of hn
    replace kb := kb.of hn
    replace ky := ky.of hn
    replace kx := kx.of hn
    replace k1 := k1.of hn
    replace hb0 := hb0.trans (hn.mono hb0.size)
    clear hn 
    have cy := Var.c ky
    have ly := ky.lt
    have ly2 : w.heap.size < wg3.heap.size := by omega
    go_wp2_with fail
    refine calls_w ?_
    intro V5 hV
    have hv : Below wg3.heap.size wg3 V5 := by rw [hV]; exact below_a2 _ _ _
    replace kr := kr.of hv
    replace kb := kb.of hv
    replace ky := ky.of hv
    replace kx := kx.of hv
    replace k1 := k1.of hv
    replace hb0 := hb0.trans (hv.mono hb0.size)
    have k2 : Var V5 (wg3.heap.size + 1) r2 := by rw [hV]; exact Blk.new1 _ _ _ _
    clear hV hv
    clear cy ly ly2
    have T := Small_any by' V5 iz sm HSM.out
    obtain ⟨kk, hkk⟩ : ∃ kk, (bif sm then by' else 0) = kk := ⟨_, rfl⟩
    rw [hkk] at T
    have HK := Lib.hid hkk
    clear hkk
    refine T.mono ?_
    clear T
    rintro e wg4 ⟨rfl, hn⟩
    replace kr := kr.of hn
    replace kb := kb.of hn
    replace ky := ky.of hn
    replace kx := kx.of hn
    replace k1 := k1.of hn
    replace k2 := k2.of hn
    replace hb0 := hb0.trans (hn.mono hb0.size)
    clear hn kr kb ky kx
    have c1 := Var.c k1
    have c2 := Var.c k2
    have hy1 := HY1.out
    have hy2 := HY2.out
    clear k1 k2
    cases o1
    · clear HF
      go_wp2_with fail
      refine (awake_any _).mono ?_
      rintro e wz ⟨rfl, hn⟩
      have hbz := hb0.trans (hn.mono hb0.size)
      clear hn
      go_wp2
      go_ret
      exact ⟨rfl, hbz⟩
    · cases o2
      · clear HF
        go_wp2_with fail
        refine (awake_any _).mono ?_
        rintro e wz ⟨rfl, hn⟩
        have hbz := hb0.trans (hn.mono hb0.size)
        clear hn
        go_wp2
        go_ret
        exact ⟨rfl, hbz⟩
      · cases y1
        · clear HF
          go_wp2_with fail
          refine (awake_any _).mono ?_
          rintro e wz ⟨rfl, hn⟩
          have hbz := hb0.trans (hn.mono hb0.size)
          clear hn
          go_wp2
          go_ret
          exact ⟨rfl, hbz⟩
        · cases y2
          · clear HF
            go_wp2_with fail
            refine (awake_any _).mono ?_
            rintro e wz ⟨rfl, hn⟩
            have hbz := hb0.trans (hn.mono hb0.size)
            clear hn
            go_wp2
            go_ret
            exact ⟨rfl, hbz⟩
          · obtain ⟨hs, hby⟩ := HF.out rfl rfl rfl rfl
            subst hs
            have hk := HK.out
            rw [cond_true] at hk
            clear HF
            rcases hby with hby | hby
            · have g1 : (kk == 1) = true := by rw [← hk, hby]; rfl
              clear hby hk HK
              go_wp2_with fail
              refine (awake_any _).mono ?_
              rintro e wz ⟨rfl, hn⟩
              have hbz := hb0.trans (hn.mono hb0.size)
              clear hn
              go_wp2
              go_ret
              exact ⟨rfl, hbz⟩
            · have g1 : (kk == 1) = false := by rw [← hk, hby]; rfl
              have g2 : (kk == -1) = true := by rw [← hk, hby]; rfl
              clear hby hk HK
              go_wp2_with fail
              refine (awake_any _).mono ?_
              rintro e wz ⟨rfl, hn⟩
              have hbz := hb0.trans (hn.mono hb0.size)
              clear hn
              go_wp2
              go_ret
              exact ⟨rfl, hbz⟩
  · have hz2 : z2 = false := HYY
    subst hz2
    go_wp2_with fail
    refine (Halves_any _ D 18 _ X2.out false HZ2.out).mono ?_
    rintro e wh ⟨rfl, hn⟩
    replace kr := kr.of hn
    replace kb := kb.of hn
    replace ky := ky.of hn
    replace kx := kx.of hn
    replace hb0 := hb0.trans (hn.mono hb0.size)
    clear hn 
    clear cx cb lb
    have cx := BRVar.c kx
    have cb := RVar.c kb
    have lb := kb.lt
    go_wp2_with fail
    clear cx HYY
    refine (HT1.out _).mono ?_
    rintro e wk1 ⟨rfl, hn⟩
    replace kr := kr.of hn
    replace kb := kb.of hn
    replace ky := ky.of hn
    replace kx := kx.of hn
    replace hb0 := hb0.trans (hn.mono hb0.size)
    clear hn 
    clear cb lb
    have cb := RVar.c kb
    have lb := kb.lt
    have cy := Var.c ky
    have ly := ky.lt
    have e1 := eq4_same (wd0 N) (wd1 N) (wd2 N) (wd3 N)
    have e2 := eq4_same (wd0 D) (wd1 D) (wd2 D) (wd3 D)
    go_wp2_with fail
    refine calls_w ?_
    intro V3 hV
    have hv : Below wk1.heap.size wk1 V3 := by rw [hV]; exact below_a1 _ _
    replace kr := kr.of hv
    replace kb := kb.of hv
    replace ky := ky.of hv
    replace kx := kx.of hv
    replace hb0 := hb0.trans (hv.mono hb0.size)
    clear hV hv
    clear e1 e2 cb lb cy ly
    refine (Div_gen N by' _ iN iz o1 HO1.out q1 r1 HQ1.out HR1.out).mono ?_
    rintro e wk2 ⟨rfl, hn⟩
    replace kr := kr.of hn
    replace kb := kb.of hn
    replace ky := ky.of hn
    replace kx := kx.of hn
    replace hb0 := hb0.trans (hn.mono hb0.size)
    clear hn 
    have cb := RVar.c kb
    have lb := kb.lt
    have lb2 : u1.heap.size < wk2.heap.size + 1 := by omega
    have cy := Var.c ky
    have ly := ky.lt
    have ly2 : w.heap.size < wk2.heap.size := by omega
    go_wp2_with fail
    refine calls_w ?_
    intro V4 hV
    have hv : Below wk2.heap.size wk2 V4 := by rw [hV]; exact below_a2 _ _ _
    replace kr := kr.of hv
    replace kb := kb.of hv
    replace ky := ky.of hv
    replace kx := kx.of hv
    replace hb0 := hb0.trans (hv.mono hb0.size)
    have k1 : Var V4 (wk2.heap.size + 1) r1 := by rw [hV]; exact Blk.new1 _ _ _ _
    clear hV hv
    clear cb lb lb2 cy ly ly2
    refine (Div_gen D by' _ iD iz o2 HO2.out q2 r2 HQ2.out HR2.out).mono ?_
    rintro e wk3 ⟨rfl, hn⟩
    replace kr := kr.of hn
    replace kb := kb.of hn
    replace ky := ky.of hn
    replace kx := kx.of hn
    replace k1 := k1.of hn
    replace hb0 := hb0.trans (hn.mono hb0.size)
    clear hn 
    have cy := Var.c ky
    have ly := ky.lt
    have ly2 : w.heap.size < wk3.heap.size := by omega
    go_wp2_with fail
    refine calls_w ?_
    intro V5 hV
    have hv : Below wk3.heap.size wk3 V5 := by rw [hV]; exact below_a2 _ _ _
    replace kr := kr.of hv
    replace kb := kb.of hv
    replace ky := ky.of hv
    replace kx := kx.of hv
    replace k1 := k1.of hv
    replace hb0 := hb0.trans (hv.mono hb0.size)
    have k2 : Var V5 (wk3.heap.size + 1) r2 := by rw [hV]; exact Blk.new1 _ _ _ _
    clear hV hv
    clear cy ly ly2
    have T := Small_any by' V5 iz sm HSM.out
    obtain ⟨kk, hkk⟩ : ∃ kk, (bif sm then by' else 0) = kk := ⟨_, rfl⟩
    rw [hkk] at T
    have HK := Lib.hid hkk
    clear hkk
    refine T.mono ?_
    clear T
    rintro e wk4 ⟨rfl, hn⟩
    replace kr := kr.of hn
    replace kb := kb.of hn
    replace ky := ky.of hn
    replace kx := kx.of hn
    replace k1 := k1.of hn
    replace k2 := k2.of hn
    replace hb0 := hb0.trans (hn.mono hb0.size)
    clear hn kr kb ky kx
    have c1 := Var.c k1
    have c2 := Var.c k2
    have hy1 := HY1.out
    have hy2 := HY2.out
    clear k1 k2
    cases o1
    · clear HF
      go_wp2_with fail
      refine (awake_any _).mono ?_
      rintro e wz ⟨rfl, hn⟩
      have hbz := hb0.trans (hn.mono hb0.size)
      clear hn
      go_wp2
      go_ret
      exact ⟨rfl, hbz⟩
    · cases o2
      · clear HF
        go_wp2_with fail
        refine (awake_any _).mono ?_
        rintro e wz ⟨rfl, hn⟩
        have hbz := hb0.trans (hn.mono hb0.size)
        clear hn
        go_wp2
        go_ret
        exact ⟨rfl, hbz⟩
      · cases y1
        · clear HF
          go_wp2_with fail
          refine (awake_any _).mono ?_
          rintro e wz ⟨rfl, hn⟩
          have hbz := hb0.trans (hn.mono hb0.size)
          clear hn
          go_wp2
          go_ret
          exact ⟨rfl, hbz⟩
        · cases y2
          · clear HF
            go_wp2_with fail
            refine (awake_any _).mono ?_
            rintro e wz ⟨rfl, hn⟩
            have hbz := hb0.trans (hn.mono hb0.size)
            clear hn
            go_wp2
            go_ret
            exact ⟨rfl, hbz⟩
          · obtain ⟨hs, hby⟩ := HF.out rfl rfl rfl rfl
            subst hs
            have hk := HK.out
            rw [cond_true] at hk
            clear HF
            rcases hby with hby | hby
            · have g1 : (kk == 1) = true := by rw [← hk, hby]; rfl
              clear hby hk HK
              go_wp2_with fail
              refine (awake_any _).mono ?_
              rintro e wz ⟨rfl, hn⟩
              have hbz := hb0.trans (hn.mono hb0.size)
              clear hn
              go_wp2
              go_ret
              exact ⟨rfl, hbz⟩
            · have g1 : (kk == 1) = false := by rw [← hk, hby]; rfl
              have g2 : (kk == -1) = true := by rw [← hk, hby]; rfl
              clear hby hk HK
              go_wp2_with fail
              refine (awake_any _).mono ?_
              rintro e wz ⟨rfl, hn⟩
              have hbz := hb0.trans (hn.mono hb0.size)
              clear hn
              go_wp2
              go_ret
              exact ⟨rfl, hbz⟩

theorem Reduces_any (n d by' : Int) (w : World) (ix : InI n) (iy : InI d) (iz : InI by') :
    Calls Try.prog 5 #[rI n d, wI by'] w fun e w' => e = .returned (.bool true) ∧ Below w.heap.size w w' := by
  cases h : decide (0 < d)
  · exact Reduces_no n d by' w ix iy h
  · exact Reduces_yes n d by' w ix iy iz h
end Go.Proofs.Ytgddpkopbiendaa
