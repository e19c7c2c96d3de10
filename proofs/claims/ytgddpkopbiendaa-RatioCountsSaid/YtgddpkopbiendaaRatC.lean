/- The walk of gromalaw02's RatioCounts. Conditions: the numbers are numbers of 256 bits. -/
import Derived.Test.YtgddpkopbiendaaRatA
import Derived.Test.YtgddpkopbiendaaRegH
import Derived.Deep.DeepCutAuto
namespace Go.Proofs.Ytgddpkopbiendaa
open Go.RowKit

/-- four variables written, one behind the other -/
abbrev set2x4 (w : World) (b1 b2 b3 b4 : Nat) (x1 y1 x2 y2 x3 y3 x4 y4 : Value) : World :=
  (((((((w.setCell ⟨b1, 0, none⟩ x1).setCell ⟨b1, 1, none⟩ y1).setCell ⟨b2, 0, none⟩ x2).setCell ⟨b2, 1, none⟩ y2).setCell ⟨b3, 0, none⟩ x3).setCell ⟨b3, 1, none⟩ y3).setCell ⟨b4, 0, none⟩ x4).setCell ⟨b4, 1, none⟩ y4
abbrev D4 (b1 b2 b3 b4 : Nat) : Prop := b1 ≠ b2 ∧ b1 ≠ b3 ∧ b1 ≠ b4 ∧ b2 ≠ b3 ∧ b2 ≠ b4 ∧ b3 ≠ b4
section
variable {w : World} {b1 b2 b3 b4 : Nat} {x1 y1 x2 y2 x3 y3 x4 y4 : Value}
theorem blk_x4 {b : Nat} {c : Array Value} {t : TypeId} (h : Blk w b c t) (h1 : b ≠ b1) (h2 : b ≠ b2) (h3 : b ≠ b3) (h4 : b ≠ b4) : Blk (set2x4 w b1 b2 b3 b4 x1 y1 x2 y2 x3 y3 x4 y4) b c t :=
  (((((((h.set h1 _ _ _).set h1 _ _ _).set h2 _ _ _).set h2 _ _ _).set h3 _ _ _).set h3 _ _ _).set h4 _ _ _).set h4 _ _ _
theorem vars_x4 (d : D4 b1 b2 b3 b4) (g1 : BigVar w b1 false none 0 0) (g2 : BigVar w b2 false none 0 0) (g3 : BigVar w b3 false none 0 0) (g4 : BigVar w b4 false none 0 0) :
    Blk (set2x4 w b1 b2 b3 b4 x1 y1 x2 y2 x3 y3 x4 y4) b1 #[x1, y1] 33 ∧ Blk (set2x4 w b1 b2 b3 b4 x1 y1 x2 y2 x3 y3 x4 y4) b2 #[x2, y2] 33 ∧ Blk (set2x4 w b1 b2 b3 b4 x1 y1 x2 y2 x3 y3 x4 y4) b3 #[x3, y3] 33 ∧ Blk (set2x4 w b1 b2 b3 b4 x1 y1 x2 y2 x3 y3 x4 y4) b4 #[x4, y4] 33 := by
  obtain ⟨d12, d13, d14, d23, d24, d34⟩ := d
  refine ⟨?_, ?_, ?_, ?_⟩
  · exact (((((((Blk.put g1 0 _).put 1 _).set d12 _ _ _).set d12 _ _ _).set d13 _ _ _).set d13 _ _ _).set d14 _ _ _).set d14 _ _ _
  · have h : BigVar ((w.setCell ⟨b1, 0, none⟩ x1).setCell ⟨b1, 1, none⟩ y1) b2 false none 0 0 := (g2.set d12.symm _ _ _).set d12.symm _ _ _
    exact (((((Blk.put h 0 _).put 1 _).set d23 _ _ _).set d23 _ _ _).set d24 _ _ _).set d24 _ _ _
  · have h : BigVar ((((w.setCell ⟨b1, 0, none⟩ x1).setCell ⟨b1, 1, none⟩ y1).setCell ⟨b2, 0, none⟩ x2).setCell ⟨b2, 1, none⟩ y2) b3 false none 0 0 := (((g3.set d13.symm _ _ _).set d13.symm _ _ _).set d23.symm _ _ _).set d23.symm _ _ _
    exact (((Blk.put h 0 _).put 1 _).set d34 _ _ _).set d34 _ _ _
  · have h : BigVar ((((((w.setCell ⟨b1, 0, none⟩ x1).setCell ⟨b1, 1, none⟩ y1).setCell ⟨b2, 0, none⟩ x2).setCell ⟨b2, 1, none⟩ y2).setCell ⟨b3, 0, none⟩ x3).setCell ⟨b3, 1, none⟩ y3) b4 false none 0 0 := (((((g4.set d14.symm _ _ _).set d14.symm _ _ _).set d24.symm _ _ _).set d24.symm _ _ _).set d34.symm _ _ _).set d34.symm _ _ _
    exact (Blk.put h 0 _).put 1 _
theorem big_x4 {v : Value} {n : Int} {L : Nat} (h : Big w v n L) (d : D4 b1 b2 b3 b4) (g1 : BigVar w b1 false none 0 0) (g2 : BigVar w b2 false none 0 0) (g3 : BigVar w b3 false none 0 0) (g4 : BigVar w b4 false none 0 0) : Big (set2x4 w b1 b2 b3 b4 x1 y1 x2 y2 x3 y3 x4 y4) v n L := by
  obtain ⟨d12, d13, d14, d23, d24, d34⟩ := d
  have h2 : BigVar ((w.setCell ⟨b1, 0, none⟩ x1).setCell ⟨b1, 1, none⟩ y1) b2 false none 0 0 := (g2.set d12.symm _ _ _).set d12.symm _ _ _
  have h3 : BigVar ((((w.setCell ⟨b1, 0, none⟩ x1).setCell ⟨b1, 1, none⟩ y1).setCell ⟨b2, 0, none⟩ x2).setCell ⟨b2, 1, none⟩ y2) b3 false none 0 0 := (((g3.set d13.symm _ _ _).set d13.symm _ _ _).set d23.symm _ _ _).set d23.symm _ _ _
  have h4 : BigVar ((((((w.setCell ⟨b1, 0, none⟩ x1).setCell ⟨b1, 1, none⟩ y1).setCell ⟨b2, 0, none⟩ x2).setCell ⟨b2, 1, none⟩ y2).setCell ⟨b3, 0, none⟩ x3).setCell ⟨b3, 1, none⟩ y3) b4 false none 0 0 := (((((g4.set d14.symm _ _ _).set d14.symm _ _ _).set d24.symm _ _ _).set d24.symm _ _ _).set d34.symm _ _ _).set d34.symm _ _ _
  exact (((h.set2 (g1.cell 0) _ _).set2 (h2.cell 0) _ _).set2 (h3.cell 0) _ _).set2 (h4.cell 0) _ _
theorem below_x4 {B : Nat} {W : World} (h : Below B W w) (h1 : B ≤ b1) (h2 : B ≤ b2) (h3 : B ≤ b3) (h4 : B ≤ b4) : Below B W (set2x4 w b1 b2 b3 b4 x1 y1 x2 y2 x3 y3 x4 y4) :=
  set2_below (set2_below (set2_below (set2_below h h1 _ _) h2 _ _) h3 _ _) h4 _ _
end

set_option maxRecDepth 100000 in
set_option maxHeartbeats 2000000 in
theorem Counts_go (n d m e : Int) (w : World) (i1 : InI n) (i2 : InI d) (i3 : InI m) (i4 : InI e) (o1 o2 os od on r1 r2 okA okM : Bool) (ho1 : okI (n * e) = o1) (ho2 : okI (m * d) = o2) (hos : okI (n * e + m * d) = os) (hod : okI (d * e) = od) (hon : okI (n * m) = on) (hr1 : decide (0 < d) = r1) (hr2 : decide (0 < e) = r2)
    (hA : (r1 && r2 && o1 && o2 && os && od) = okA) (hM : (r1 && r2 && on && od) = okM) (sA vA sM vM : Int) (hsA : (bif okA then n * e + m * d else 0) = sA) (hvA : (bif okA then d * e else 0) = vA) (hsM : (bif okM then n * m else 0) = sM) (hvM : (bif okM then d * e else 0) = vM)
    (hTA : ∀ w, Calls Try.prog 58 #[rI n d, rI m e] w fun e' w' => e' = .returned (.tuple #[rI sA vA, .bool okA]) ∧ Below w.heap.size w w')
    (hTM : ∀ w, Calls Try.prog 59 #[rI n d, rI m e] w fun e' w' => e' = .returned (.tuple #[rI sM vM, .bool okM]) ∧ Below w.heap.size w w') :
    Calls Try.prog 13 #[rI n d, rI m e] w fun e' w' => e' = .returned (.bool true) ∧ Below w.heap.size w w' := by
  have O1 := Lib.hid ho1
  have O2 := Lib.hid ho2
  have OS := Lib.hid hos
  have OD := Lib.hid hod
  have ON := Lib.hid hon
  have R1 := Lib.hid hr1
  have R2 := Lib.hid hr2
  have OA := Lib.hid hA
  have OM := Lib.hid hM
  have SA := Lib.hid hsA
  have VA := Lib.hid hvA
  have SM := Lib.hid hsM
  have VM := Lib.hid hvM
  have TA := Lib.hid hTA
  have TM := Lib.hid hTM
  clear ho1 ho2 hos hod hon hr1 hr2 hA hM hsA hvA hsM hvM hTA hTM
  go_enter Try.func13, Try.ntmps13
  go_wp2_with fail
  refine calls_w ?_
  intro W hW
  have kr : RVar W w.heap.size n d := by rw [hW]; exact (Blk.new _ _ _).alloc _
  have ks : RVar W (w.heap.size + 1) m e := by rw [hW]; exact Blk.new1 _ _ _ _
  have hb0 : Below w.heap.size w W := by rw [hW]; exact below_a2 _ _ _
  clear hW
  refine (TA.out _).mono ?_
  rintro e u1 ⟨rfl, hn⟩
  replace kr := kr.of hn
  replace ks := ks.of hn
  replace hb0 := hb0.trans (hn.mono hb0.size)
  clear hn 
  have cr := RVar.c kr
  have cs := RVar.c ks
  have lr := kr.lt
  have ls := ks.lt
  have ls2 : w.heap.size < u1.heap.size := by omega
  go_wp2_with fail
  refine calls_w ?_
  intro V1 hV
  have hv : Below u1.heap.size u1 V1 := by rw [hV]; exact below_a1 _ _
  replace kr := kr.of hv
  replace ks := ks.of hv
  replace hb0 := hb0.trans (hv.mono hb0.size)
  have ka : RVar V1 u1.heap.size sA vA := by rw [hV]; exact Blk.new _ _ _
  clear hV hv
  clear cr cs lr ls ls2
  refine (TM.out _).mono ?_
  rintro e u2 ⟨rfl, hn⟩
  replace kr := kr.of hn
  replace ks := ks.of hn
  replace ka := ka.of hn
  replace hb0 := hb0.trans (hn.mono hb0.size)
  clear hn 
  go_wp2_with fail
  refine name_world ?_
  intro W2 hV
  have hv : Below u2.heap.size u2 W2 := by rw [hV]; exact below_a1 _ _
  replace kr := kr.of hv
  replace ks := ks.of hv
  replace ka := ka.of hv
  replace hb0 := hb0.trans (hv.mono hb0.size)
  have kb : RVar W2 u2.heap.size sM vM := by rw [hV]; exact Blk.new _ _ _
  clear hV hv
  have cr := RVar.c kr
  have cs := RVar.c ks
  have lr := kr.lt
  have ls := ks.lt
  have KR := Lib.hid kr
  have KS := Lib.hid ks
  have KA := Lib.hid ka
  have KB := Lib.hid kb
  clear kr ks ka kb
  refine wp_region_FG2 6 4 5 [(0, 0), (0, 2), (1, 1), (1, 3)] [(3, 6), (3, 7)] (by kernel_rfl) (by kernel_rfl) (fun _ _ d _ _ => by cases d <;> exact Iff.rfl) rfl rfl rfl allocBR rfl rfl rfl allocBR rfl ?_
  have hb : Below W2.heap.size W2 W2.drew := (Below.refl _ _).drew
  iterate 2
    refine wpFG_take0 rfl rfl ?_
    go_big_quiet_step (rfl)
    refine wpQuiet_nil ?_
  refine wpFG_do rfl ?_
  intro w1 hg K hK
  replace hb := hb.trans (hg.mono hb.size)
  try replace HA := Lib.hid (HA.out.of hg)
  clear hg
  go_wp2_with ((first | (go_at_call 20; (with_reducible refine (ref_any n d _ i1 i2).mono ?_); rintro e' wa ⟨vm, rfl, hbm, hn⟩; have HA := Lib.hid hbm; obtain ⟨m1, a1, l1, p1, m2, a2, l2, p2, rfl, _⟩ := hbm) | (go_at_call 20; (with_reducible refine (ref_any m e _ i3 i4).mono ?_); rintro e' wb ⟨vm, rfl, hbm, hn⟩; have HB := Lib.hid hbm; replace HA := Lib.hid (HA.out.of hn); obtain ⟨m3, a3, l3, p3, m4, a4, l4, p4, rfl, _⟩ := hbm)))
  refine hK.out _ _ hn ?_
  replace hb := hb.trans (hn.mono hb.size)
  clear hK K
  clear hn
  refine wpFG_do rfl ?_
  intro w1 hg K hK
  replace hb := hb.trans (hg.mono hb.size)
  try replace HA := Lib.hid (HA.out.of hg)
  clear hg
  go_wp2_with ((first | (go_at_call 20; (with_reducible refine (ref_any n d _ i1 i2).mono ?_); rintro e' wa ⟨vm, rfl, hbm, hn⟩; have HA := Lib.hid hbm; obtain ⟨m1, a1, l1, p1, m2, a2, l2, p2, rfl, _⟩ := hbm) | (go_at_call 20; (with_reducible refine (ref_any m e _ i3 i4).mono ?_); rintro e' wb ⟨vm, rfl, hbm, hn⟩; have HB := Lib.hid hbm; replace HA := Lib.hid (HA.out.of hn); obtain ⟨m3, a3, l3, p3, m4, a4, l4, p4, rfl, _⟩ := hbm)))
  refine hK.out _ _ hn ?_
  replace hb := hb.trans (hn.mono hb.size)
  clear hK K
  clear hn
  refine wpFG_nil ?_
  clear hb
  intro w1 hg hb b1 b2 hne lb1 nb1 lb2 nb2
  replace HA := Lib.hid (HA.out.of hg)
  replace HB := Lib.hid (HB.out.of hg)
  clear hg
  simp only [Act.put, ptrTo, List.setIfInBounds_toArray, List.set_cons_succ, List.set_cons_zero]
  have g1 : BRVar w1 b1 false none 0 0 false none 0 0 := nb1
  have g2 : BRVar w1 b2 false none 0 0 false none 0 0 := nb2
  have c1 := BRVar.c g1
  have f1 := BRVar.f g1
  have c2 := BRVar.c g2
  have f2 := BRVar.f g2
  clear cr cs lr ls
  refine wpG_do3 rfl ?_
  intro K hK
  go_wp2_with (fail)
  refine hK.out _ _ ?_
  clear hK K
  refine wpG_do3 rfl ?_
  intro K hK
  go_wp2_with (fail)
  refine hK.out _ _ ?_
  clear hK K
  refine wpG_nil ?_
  refine list_world ?_
  intro V hV
  have h1 : b1 ≠ b2 := hne
  have q2 : BRVar ((((w1.setCell ⟨b1, 0, none⟩ (.bool m1)).setCell ⟨b1, 1, none⟩ (.slice a1 l1 p1)).setCell ⟨b1, 2, none⟩ (.bool m2)).setCell ⟨b1, 3, none⟩ (.slice a2 l2 p2)) b2 false none 0 0 false none 0 0 := Blk.set4 g2 h1.symm _ _ _ _
  have hge1 : w.heap.size ≤ b1 := Nat.le_trans hb0.size lb1
  have hge2 : w.heap.size ≤ b2 := Nat.le_trans hb0.size lb2
  have kx : BRVar V b1 m1 a1 l1 p1 m2 a2 l2 p2 := by rw [hV]; exact Blk.set4 ((((Blk.put g1 0 _).put 1 _).put 2 _).put 3 _) h1 _ _ _ _
  have ky : BRVar V b2 m3 a3 l3 p3 m4 a4 l4 p4 := by rw [hV]; exact (((Blk.put q2 0 _).put 1 _).put 2 _).put 3 _
  obtain ⟨x1, x2⟩ := BRat.parts HA.out
  obtain ⟨y1, y2⟩ := BRat.parts HB.out
  have X1 := Lib.hid (show Big V (.agg #[.bool m1, .slice a1 l1 p1]) n 18 by rw [hV]; exact (x1.set4 (g1.cell 0) _ _ _ _).set4 (q2.cell 0) _ _ _ _)
  have X2 := Lib.hid (show Big V (.agg #[.bool m2, .slice a2 l2 p2]) d 18 by rw [hV]; exact (x2.set4 (g1.cell 0) _ _ _ _).set4 (q2.cell 0) _ _ _ _)
  have Y1 := Lib.hid (show Big V (.agg #[.bool m3, .slice a3 l3 p3]) m 18 by rw [hV]; exact (y1.set4 (g1.cell 0) _ _ _ _).set4 (q2.cell 0) _ _ _ _)
  have Y2 := Lib.hid (show Big V (.agg #[.bool m4, .slice a4 l4 p4]) e 18 by rw [hV]; exact (y2.set4 (g1.cell 0) _ _ _ _).set4 (q2.cell 0) _ _ _ _)
  have nr : w.heap.size ≠ b1 ∧ w.heap.size ≠ b2 := by have := KR.out.lt; omega
  have ns : w.heap.size + 1 ≠ b1 ∧ w.heap.size + 1 ≠ b2 := by have := KS.out.lt; omega
  have na : u1.heap.size ≠ b1 ∧ u1.heap.size ≠ b2 := by have := KA.out.lt; omega
  have nb : u2.heap.size ≠ b1 ∧ u2.heap.size ≠ b2 := by have := KB.out.lt; omega
  have kr : RVar V w.heap.size n d := by rw [hV]; exact Blk.set4 (Blk.set4 (KR.out.of hb) nr.1 _ _ _ _) nr.2 _ _ _ _
  have ks : RVar V (w.heap.size + 1) m e := by rw [hV]; exact Blk.set4 (Blk.set4 (KS.out.of hb) ns.1 _ _ _ _) ns.2 _ _ _ _
  have ka : RVar V u1.heap.size sA vA := by rw [hV]; exact Blk.set4 (Blk.set4 (KA.out.of hb) na.1 _ _ _ _) na.2 _ _ _ _
  have kb : RVar V u2.heap.size sM vM := by rw [hV]; exact Blk.set4 (Blk.set4 (KB.out.of hb) nb.1 _ _ _ _) nb.2 _ _ _ _
  have hbV : Below w.heap.size w V := by rw [hV]; exact below_set4 (below_set4 (hb0.trans (hb.mono hb0.size)) hge1 _ _ _ _) hge2 _ _ _ _
  clear hV g1 g2 q2 nb1 nb2 c1 f1 c2 f2 lb1 lb2 hb KR KS KA KB hb0 nr ns na nb x1 x2 y1 y2 HA HB hge1 hge2 h1 hne
  obtain ⟨bx, rfl⟩ : ∃ bx, bx = b1 := ⟨_, rfl⟩
  obtain ⟨by', rfl⟩ : ∃ by', by' = b2 := ⟨_, rfl⟩
  obtain ⟨wz, rfl⟩ : ∃ wz, wz = w1 := ⟨_, rfl⟩
  go_wp2_with fail
  have cx := BRVar.c kx
  have cy := BRVar.c ky
  have lx := kx.lt
  have ly := ky.lt
  have KR := Lib.hid kr
  have KS := Lib.hid ks
  have KA := Lib.hid ka
  have KB := Lib.hid kb
  clear kr ks ka kb kx ky
  refine Far.wp_region_FG4 24 20 21 22 23 [(0, 0), (0, 1), (0, 2), (0, 3), (0, 5), (0, 6), (0, 7), (0, 8), (0, 10), (0, 11), (0, 12), (0, 13), (0, 15), (0, 16), (0, 17), (0, 18), (1, 4), (1, 9), (1, 14), (1, 19)] [(3, 24), (3, 25), (3, 26), (3, 27)] (by kernel_rfl) (by kernel_rfl) (fun _ _ d _ _ => by cases d <;> exact Iff.rfl) allocBig rfl rfl rfl rfl rfl rfl rfl rfl rfl rfl rfl rfl rfl ?_
  have hb : Below V.heap.size V V.drew := (Below.refl _ _).drew
  iterate 16
    refine wpFG_take0 rfl rfl ?_
    go_big_quiet_step (rfl)
    refine wpQuiet_nil ?_
  refine wpFG_do rfl ?_
  intro w1 hg K hK
  replace hb := hb.trans (hg.mono hb.size)
  try (replace HL := Lib.hid (HL.out.of hg); try (replace HM := Lib.hid (HM.out.of hg); try replace HD := Lib.hid (HD.out.of hg)))
  clear hg
  go_wp2_with ((first | (go_at_call 21; (with_reducible refine (bigMul_any (.agg #[.bool m1, .slice a1 l1 p1]) (.agg #[.bool m4, .slice a4 l4 p4]) _ _ 18 18 _ (X1.out.of hb) (Y2.out.of hb) (by decide)).mono ?_); rintro e' wc ⟨vm, rfl, hbm, hn⟩; have HL := Lib.hid hbm; have hvm := hbm.shape; clear hbm; obtain ⟨n5, a5, q5, e5, rfl⟩ := hvm) | (go_at_call 21; (with_reducible refine (bigMul_any (.agg #[.bool m3, .slice a3 l3 p3]) (.agg #[.bool m2, .slice a2 l2 p2]) _ _ 18 18 _ (Y1.out.of hb) (X2.out.of hb) (by decide)).mono ?_); rintro e' wd ⟨vm, rfl, hbm, hn⟩; have HM := Lib.hid hbm; have hvm := hbm.shape; replace HL := Lib.hid (HL.out.of hn); clear hbm; obtain ⟨n6, a6, q6, e6, rfl⟩ := hvm) | (go_at_call 21; (with_reducible refine (bigMul_any (.agg #[.bool m2, .slice a2 l2 p2]) (.agg #[.bool m4, .slice a4 l4 p4]) _ _ 18 18 _ (X2.out.of hb) (Y2.out.of hb) (by decide)).mono ?_); rintro e' we ⟨vm, rfl, hbm, hn⟩; have HD := Lib.hid hbm; have hvm := hbm.shape; replace HL := Lib.hid (HL.out.of hn); replace HM := Lib.hid (HM.out.of hn); clear hbm; obtain ⟨n7, a7, q7, e7, rfl⟩ := hvm) | (go_at_call 21; (with_reducible refine (bigMul_any (.agg #[.bool m1, .slice a1 l1 p1]) (.agg #[.bool m3, .slice a3 l3 p3]) _ _ 18 18 _ (X1.out.of hb) (Y1.out.of hb) (by decide)).mono ?_); rintro e' wf ⟨vm, rfl, hbm, hn⟩; have HN := Lib.hid hbm; have hvm := hbm.shape; replace HL := Lib.hid (HL.out.of hn); replace HM := Lib.hid (HM.out.of hn); replace HD := Lib.hid (HD.out.of hn); clear hbm; obtain ⟨n8, a8, q8, e8, rfl⟩ := hvm)))
  refine hK.out _ _ hn ?_
  replace hb := hb.trans (hn.mono hb.size)
  clear hK K
  clear hn
  refine wpFG_do rfl ?_
  intro w1 hg K hK
  replace hb := hb.trans (hg.mono hb.size)
  try (replace HL := Lib.hid (HL.out.of hg); try (replace HM := Lib.hid (HM.out.of hg); try replace HD := Lib.hid (HD.out.of hg)))
  clear hg
  go_wp2_with ((first | (go_at_call 21; (with_reducible refine (bigMul_any (.agg #[.bool m1, .slice a1 l1 p1]) (.agg #[.bool m4, .slice a4 l4 p4]) _ _ 18 18 _ (X1.out.of hb) (Y2.out.of hb) (by decide)).mono ?_); rintro e' wc ⟨vm, rfl, hbm, hn⟩; have HL := Lib.hid hbm; have hvm := hbm.shape; clear hbm; obtain ⟨n5, a5, q5, e5, rfl⟩ := hvm) | (go_at_call 21; (with_reducible refine (bigMul_any (.agg #[.bool m3, .slice a3 l3 p3]) (.agg #[.bool m2, .slice a2 l2 p2]) _ _ 18 18 _ (Y1.out.of hb) (X2.out.of hb) (by decide)).mono ?_); rintro e' wd ⟨vm, rfl, hbm, hn⟩; have HM := Lib.hid hbm; have hvm := hbm.shape; replace HL := Lib.hid (HL.out.of hn); clear hbm; obtain ⟨n6, a6, q6, e6, rfl⟩ := hvm) | (go_at_call 21; (with_reducible refine (bigMul_any (.agg #[.bool m2, .slice a2 l2 p2]) (.agg #[.bool m4, .slice a4 l4 p4]) _ _ 18 18 _ (X2.out.of hb) (Y2.out.of hb) (by decide)).mono ?_); rintro e' we ⟨vm, rfl, hbm, hn⟩; have HD := Lib.hid hbm; have hvm := hbm.shape; replace HL := Lib.hid (HL.out.of hn); replace HM := Lib.hid (HM.out.of hn); clear hbm; obtain ⟨n7, a7, q7, e7, rfl⟩ := hvm) | (go_at_call 21; (with_reducible refine (bigMul_any (.agg #[.bool m1, .slice a1 l1 p1]) (.agg #[.bool m3, .slice a3 l3 p3]) _ _ 18 18 _ (X1.out.of hb) (Y1.out.of hb) (by decide)).mono ?_); rintro e' wf ⟨vm, rfl, hbm, hn⟩; have HN := Lib.hid hbm; have hvm := hbm.shape; replace HL := Lib.hid (HL.out.of hn); replace HM := Lib.hid (HM.out.of hn); replace HD := Lib.hid (HD.out.of hn); clear hbm; obtain ⟨n8, a8, q8, e8, rfl⟩ := hvm)))
  refine hK.out _ _ hn ?_
  replace hb := hb.trans (hn.mono hb.size)
  clear hK K
  clear hn
  refine wpFG_do rfl ?_
  intro w1 hg K hK
  replace hb := hb.trans (hg.mono hb.size)
  try (replace HL := Lib.hid (HL.out.of hg); try (replace HM := Lib.hid (HM.out.of hg); try replace HD := Lib.hid (HD.out.of hg)))
  clear hg
  go_wp2_with ((first | (go_at_call 21; (with_reducible refine (bigMul_any (.agg #[.bool m1, .slice a1 l1 p1]) (.agg #[.bool m4, .slice a4 l4 p4]) _ _ 18 18 _ (X1.out.of hb) (Y2.out.of hb) (by decide)).mono ?_); rintro e' wc ⟨vm, rfl, hbm, hn⟩; have HL := Lib.hid hbm; have hvm := hbm.shape; clear hbm; obtain ⟨n5, a5, q5, e5, rfl⟩ := hvm) | (go_at_call 21; (with_reducible refine (bigMul_any (.agg #[.bool m3, .slice a3 l3 p3]) (.agg #[.bool m2, .slice a2 l2 p2]) _ _ 18 18 _ (Y1.out.of hb) (X2.out.of hb) (by decide)).mono ?_); rintro e' wd ⟨vm, rfl, hbm, hn⟩; have HM := Lib.hid hbm; have hvm := hbm.shape; replace HL := Lib.hid (HL.out.of hn); clear hbm; obtain ⟨n6, a6, q6, e6, rfl⟩ := hvm) | (go_at_call 21; (with_reducible refine (bigMul_any (.agg #[.bool m2, .slice a2 l2 p2]) (.agg #[.bool m4, .slice a4 l4 p4]) _ _ 18 18 _ (X2.out.of hb) (Y2.out.of hb) (by decide)).mono ?_); rintro e' we ⟨vm, rfl, hbm, hn⟩; have HD := Lib.hid hbm; have hvm := hbm.shape; replace HL := Lib.hid (HL.out.of hn); replace HM := Lib.hid (HM.out.of hn); clear hbm; obtain ⟨n7, a7, q7, e7, rfl⟩ := hvm) | (go_at_call 21; (with_reducible refine (bigMul_any (.agg #[.bool m1, .slice a1 l1 p1]) (.agg #[.bool m3, .slice a3 l3 p3]) _ _ 18 18 _ (X1.out.of hb) (Y1.out.of hb) (by decide)).mono ?_); rintro e' wf ⟨vm, rfl, hbm, hn⟩; have HN := Lib.hid hbm; have hvm := hbm.shape; replace HL := Lib.hid (HL.out.of hn); replace HM := Lib.hid (HM.out.of hn); replace HD := Lib.hid (HD.out.of hn); clear hbm; obtain ⟨n8, a8, q8, e8, rfl⟩ := hvm)))
  refine hK.out _ _ hn ?_
  replace hb := hb.trans (hn.mono hb.size)
  clear hK K
  clear hn
  refine wpFG_do rfl ?_
  intro w1 hg K hK
  replace hb := hb.trans (hg.mono hb.size)
  try (replace HL := Lib.hid (HL.out.of hg); try (replace HM := Lib.hid (HM.out.of hg); try replace HD := Lib.hid (HD.out.of hg)))
  clear hg
  go_wp2_with ((first | (go_at_call 21; (with_reducible refine (bigMul_any (.agg #[.bool m1, .slice a1 l1 p1]) (.agg #[.bool m4, .slice a4 l4 p4]) _ _ 18 18 _ (X1.out.of hb) (Y2.out.of hb) (by decide)).mono ?_); rintro e' wc ⟨vm, rfl, hbm, hn⟩; have HL := Lib.hid hbm; have hvm := hbm.shape; clear hbm; obtain ⟨n5, a5, q5, e5, rfl⟩ := hvm) | (go_at_call 21; (with_reducible refine (bigMul_any (.agg #[.bool m3, .slice a3 l3 p3]) (.agg #[.bool m2, .slice a2 l2 p2]) _ _ 18 18 _ (Y1.out.of hb) (X2.out.of hb) (by decide)).mono ?_); rintro e' wd ⟨vm, rfl, hbm, hn⟩; have HM := Lib.hid hbm; have hvm := hbm.shape; replace HL := Lib.hid (HL.out.of hn); clear hbm; obtain ⟨n6, a6, q6, e6, rfl⟩ := hvm) | (go_at_call 21; (with_reducible refine (bigMul_any (.agg #[.bool m2, .slice a2 l2 p2]) (.agg #[.bool m4, .slice a4 l4 p4]) _ _ 18 18 _ (X2.out.of hb) (Y2.out.of hb) (by decide)).mono ?_); rintro e' we ⟨vm, rfl, hbm, hn⟩; have HD := Lib.hid hbm; have hvm := hbm.shape; replace HL := Lib.hid (HL.out.of hn); replace HM := Lib.hid (HM.out.of hn); clear hbm; obtain ⟨n7, a7, q7, e7, rfl⟩ := hvm) | (go_at_call 21; (with_reducible refine (bigMul_any (.agg #[.bool m1, .slice a1 l1 p1]) (.agg #[.bool m3, .slice a3 l3 p3]) _ _ 18 18 _ (X1.out.of hb) (Y1.out.of hb) (by decide)).mono ?_); rintro e' wf ⟨vm, rfl, hbm, hn⟩; have HN := Lib.hid hbm; have hvm := hbm.shape; replace HL := Lib.hid (HL.out.of hn); replace HM := Lib.hid (HM.out.of hn); replace HD := Lib.hid (HD.out.of hn); clear hbm; obtain ⟨n8, a8, q8, e8, rfl⟩ := hvm)))
  refine hK.out _ _ hn ?_
  replace hb := hb.trans (hn.mono hb.size)
  clear hK K
  clear hn
  refine wpFG_nil ?_
  clear hb
  intro w1 hg hb b1 b2 b3 b4 hne nb1 nb2 nb3 nb4
  replace HL := Lib.hid (HL.out.of hg)
  replace HM := Lib.hid (HM.out.of hg)
  replace HD := Lib.hid (HD.out.of hg)
  replace HN := Lib.hid (HN.out.of hg)
  clear hg
  simp only [Act.put, ptrTo, List.setIfInBounds_toArray, List.set_cons_succ, List.set_cons_zero]
  obtain ⟨lb1, nb1⟩ := nb1
  obtain ⟨lb2, nb2⟩ := nb2
  obtain ⟨lb3, nb3⟩ := nb3
  obtain ⟨lb4, nb4⟩ := nb4
  have g1 : BigVar w1 b1 false none 0 0 := nb1
  have g2 : BigVar w1 b2 false none 0 0 := nb2
  have g3 : BigVar w1 b3 false none 0 0 := nb3
  have g4 : BigVar w1 b4 false none 0 0 := nb4
  have c1 := BigVar.c g1
  have f1 := BigVar.f g1
  have c2 := BigVar.c g2
  have f2 := BigVar.f g2
  have c3 := BigVar.c g3
  have f3 := BigVar.f g3
  have c4 := BigVar.c g4
  have f4 := BigVar.f g4
  clear cx cy lx ly
  refine wpG_do3 rfl ?_
  intro K hK
  go_wp2_with (fail)
  refine hK.out _ _ ?_
  clear hK K
  refine wpG_do3 rfl ?_
  intro K hK
  go_wp2_with (fail)
  refine hK.out _ _ ?_
  clear hK K
  refine wpG_do3 rfl ?_
  intro K hK
  go_wp2_with (fail)
  refine hK.out _ _ ?_
  clear hK K
  refine wpG_do3 rfl ?_
  intro K hK
  go_wp2_with (fail)
  refine hK.out _ _ ?_
  clear hK K
  refine wpG_nil ?_
  refine list_world ?_
  intro U hU
  have dist : D4 b1 b2 b3 b4 := hne
  obtain ⟨k1, k2, k3, k4⟩ : BigVar U b1 n5 a5 q5 e5 ∧ BigVar U b2 n6 a6 q6 e6 ∧ BigVar U b3 n7 a7 q7 e7 ∧ BigVar U b4 n8 a8 q8 e8 := by rw [hU]; exact vars_x4 dist g1 g2 g3 g4
  replace HL := Lib.hid (show Big U (.agg #[.bool n5, .slice a5 q5 e5]) (n * e) 36 by rw [hU]; exact big_x4 HL.out dist g1 g2 g3 g4)
  replace HM := Lib.hid (show Big U (.agg #[.bool n6, .slice a6 q6 e6]) (m * d) 36 by rw [hU]; exact big_x4 HM.out dist g1 g2 g3 g4)
  replace HD := Lib.hid (show Big U (.agg #[.bool n7, .slice a7 q7 e7]) (d * e) 36 by rw [hU]; exact big_x4 HD.out dist g1 g2 g3 g4)
  replace HN := Lib.hid (show Big U (.agg #[.bool n8, .slice a8 q8 e8]) (n * m) 36 by rw [hU]; exact big_x4 HN.out dist g1 g2 g3 g4)
  have nr : w.heap.size ≠ b1 ∧ w.heap.size ≠ b2 ∧ w.heap.size ≠ b3 ∧ w.heap.size ≠ b4 := by have := KR.out.lt; omega
  have ns : w.heap.size + 1 ≠ b1 ∧ w.heap.size + 1 ≠ b2 ∧ w.heap.size + 1 ≠ b3 ∧ w.heap.size + 1 ≠ b4 := by have := KS.out.lt; omega
  have na : u1.heap.size ≠ b1 ∧ u1.heap.size ≠ b2 ∧ u1.heap.size ≠ b3 ∧ u1.heap.size ≠ b4 := by have := KA.out.lt; omega
  have nb : u2.heap.size ≠ b1 ∧ u2.heap.size ≠ b2 ∧ u2.heap.size ≠ b3 ∧ u2.heap.size ≠ b4 := by have := KB.out.lt; omega
  have kr : RVar U w.heap.size n d := by rw [hU]; exact blk_x4 (KR.out.of hb) nr.1 nr.2.1 nr.2.2.1 nr.2.2.2
  have ks : RVar U (w.heap.size + 1) m e := by rw [hU]; exact blk_x4 (KS.out.of hb) ns.1 ns.2.1 ns.2.2.1 ns.2.2.2
  have ka : RVar U u1.heap.size sA vA := by rw [hU]; exact blk_x4 (KA.out.of hb) na.1 na.2.1 na.2.2.1 na.2.2.2
  have kb : RVar U u2.heap.size sM vM := by rw [hU]; exact blk_x4 (KB.out.of hb) nb.1 nb.2.1 nb.2.2.1 nb.2.2.2
  have hbU : Below w.heap.size w U := by
    rw [hU]
    exact below_x4 (hbV.trans (hb.mono hbV.size)) (Nat.le_trans hbV.size lb1) (Nat.le_trans hbV.size lb2) (Nat.le_trans hbV.size lb3) (Nat.le_trans hbV.size lb4)
  clear hU g1 g2 g3 g4 nb1 nb2 nb3 nb4 c1 f1 c2 f2 c3 f3 c4 f4 lb1 lb2 lb3 lb4 hb KR KS KA KB hbV nr ns na nb hne X1 X2 Y1 Y2 dist
  have c1 := BigVar.c k1
  have c2 := BigVar.c k2
  go_wp2_with fail
  refine (bigAdd_any _ _ (n * e) (m * d) 36 _ HL.out HM.out (by decide)).mono ?_
  rintro e u3 ⟨vm, rfl, hbm, hn⟩
  replace kr := kr.of hn
  replace ks := ks.of hn
  replace ka := ka.of hn
  replace kb := kb.of hn
  replace k1 := k1.of hn
  replace k2 := k2.of hn
  replace k3 := k3.of hn
  replace k4 := k4.of hn
  replace HL := Lib.hid (HL.out.of hn)
  replace HM := Lib.hid (HM.out.of hn)
  replace HD := Lib.hid (HD.out.of hn)
  replace HN := Lib.hid (HN.out.of hn)
  replace hbU := hbU.trans (hn.mono hbU.size)
  have HSM := Lib.hid hbm
  have hvm := hbm.shape
  clear hbm hn
  obtain ⟨n9, a9, q9, e9, rfl⟩ := hvm
  clear c1 c2
  have cr := RVar.c kr
  have lr := kr.lt
  go_wp2_with fail
  refine calls_w ?_
  intro V3 hV
  have hv : Below u3.heap.size u3 V3 := by rw [hV]; exact below_a1 _ _
  replace kr := kr.of hv
  replace ks := ks.of hv
  replace ka := ka.of hv
  replace kb := kb.of hv
  replace k1 := k1.of hv
  replace k2 := k2.of hv
  replace k3 := k3.of hv
  replace k4 := k4.of hv
  replace HL := Lib.hid (HL.out.of hv)
  replace HM := Lib.hid (HM.out.of hv)
  replace HD := Lib.hid (HD.out.of hv)
  replace HN := Lib.hid (HN.out.of hv)
  replace HSM := Lib.hid (HSM.out.of hv)
  replace hbU := hbU.trans (hv.mono hbU.size)
  have k5 : BigVar V3 u3.heap.size n9 a9 q9 e9 := by rw [hV]; exact Blk.new _ _ _
  clear hV hv
  clear cr lr
  refine (right_is n d _ i2 r1 R1.out).mono ?_
  rintro e u4 ⟨rfl, hn⟩
  replace kr := kr.of hn
  replace ks := ks.of hn
  replace ka := ka.of hn
  replace kb := kb.of hn
  replace k1 := k1.of hn
  replace k2 := k2.of hn
  replace k3 := k3.of hn
  replace k4 := k4.of hn
  replace k5 := k5.of hn
  replace HL := Lib.hid (HL.out.of hn)
  replace HM := Lib.hid (HM.out.of hn)
  replace HD := Lib.hid (HD.out.of hn)
  replace HN := Lib.hid (HN.out.of hn)
  replace HSM := Lib.hid (HSM.out.of hn)
  replace hbU := hbU.trans (hn.mono hbU.size)
  clear hn 
  cases r1
  · skip
    have qA : okA = false := by have := OA.out; rw [← this]; simp
    have qs : sA = 0 := by have := SA.out; rw [qA] at this; exact this.symm
    have qv : vA = 0 := by have := VA.out; rw [qA] at this; exact this.symm
    subst qA
    subst qs
    subst qv
    have ca := RVar.c ka
    have e4 : eq4 (wd0 0) (wd1 0) (wd2 0) (wd3 0) 0 0 0 0 = true := by decide
    have qM : okM = false := by have := OM.out; rw [← this]; simp
    have qs2 : sM = 0 := by have := SM.out; rw [qM] at this; exact this.symm
    have qv2 : vM = 0 := by have := VM.out; rw [qM] at this; exact this.symm
    subst qM
    subst qs2
    subst qv2
    have cb := RVar.c kb
    have f4 : eq4 (wd0 0) (wd1 0) (wd2 0) (wd3 0) 0 0 0 0 = true := by decide
    go_wp2_with fail
    refine (awake_any _).mono ?_
    rintro e' vz ⟨rfl, hn⟩
    have hbz := hbU.trans (hn.mono hbU.size)
    clear hn
    go_wp2
    go_ret
    exact ⟨rfl, hbz⟩
  · skip
    have cs := RVar.c ks
    go_wp2_with fail
    refine (right_is m e _ i4 r2 R2.out).mono ?_
    rintro e u5 ⟨rfl, hn⟩
    replace kr := kr.of hn
    replace ks := ks.of hn
    replace ka := ka.of hn
    replace kb := kb.of hn
    replace k1 := k1.of hn
    replace k2 := k2.of hn
    replace k3 := k3.of hn
    replace k4 := k4.of hn
    replace k5 := k5.of hn
    replace HL := Lib.hid (HL.out.of hn)
    replace HM := Lib.hid (HM.out.of hn)
    replace HD := Lib.hid (HD.out.of hn)
    replace HN := Lib.hid (HN.out.of hn)
    replace HSM := Lib.hid (HSM.out.of hn)
    replace hbU := hbU.trans (hn.mono hbU.size)
    clear hn 
    clear cs
    cases r2
    · skip
      have qA : okA = false := by have := OA.out; rw [← this]; simp
      have qs : sA = 0 := by have := SA.out; rw [qA] at this; exact this.symm
      have qv : vA = 0 := by have := VA.out; rw [qA] at this; exact this.symm
      subst qA
      subst qs
      subst qv
      have ca := RVar.c ka
      have e4 : eq4 (wd0 0) (wd1 0) (wd2 0) (wd3 0) 0 0 0 0 = true := by decide
      have qM : okM = false := by have := OM.out; rw [← this]; simp
      have qs2 : sM = 0 := by have := SM.out; rw [qM] at this; exact this.symm
      have qv2 : vM = 0 := by have := VM.out; rw [qM] at this; exact this.symm
      subst qM
      subst qs2
      subst qv2
      have cb := RVar.c kb
      have f4 : eq4 (wd0 0) (wd1 0) (wd2 0) (wd3 0) 0 0 0 0 = true := by decide
      go_wp2_with fail
      refine (awake_any _).mono ?_
      rintro e' vz ⟨rfl, hn⟩
      have hbz := hbU.trans (hn.mono hbU.size)
      clear hn
      go_wp2
      go_ret
      exact ⟨rfl, hbz⟩
    · skip
      have c1 := BigVar.c k1
      go_wp2_with fail
      refine (Fits_is _ (n * e) 36 o1 O1.out _ HL.out).mono ?_
      rintro e x1 ⟨rfl, hn⟩
      replace kr := kr.of hn
      replace ks := ks.of hn
      replace ka := ka.of hn
      replace kb := kb.of hn
      replace k1 := k1.of hn
      replace k2 := k2.of hn
      replace k3 := k3.of hn
      replace k4 := k4.of hn
      replace k5 := k5.of hn
      replace HL := Lib.hid (HL.out.of hn)
      replace HM := Lib.hid (HM.out.of hn)
      replace HD := Lib.hid (HD.out.of hn)
      replace HN := Lib.hid (HN.out.of hn)
      replace HSM := Lib.hid (HSM.out.of hn)
      replace hbU := hbU.trans (hn.mono hbU.size)
      clear hn 
      clear c1
      cases o1
      · skip
        have qA : okA = false := by have := OA.out; rw [← this]; simp
        have qs : sA = 0 := by have := SA.out; rw [qA] at this; exact this.symm
        have qv : vA = 0 := by have := VA.out; rw [qA] at this; exact this.symm
        subst qA
        subst qs
        subst qv
        have ca := RVar.c ka
        have e4 : eq4 (wd0 0) (wd1 0) (wd2 0) (wd3 0) 0 0 0 0 = true := by decide
        clear HL HM HSM
        have c4 := BigVar.c k4
        go_wp2_with fail
        clear ca e4
        refine (Fits_is _ (n * m) 36 on ON.out _ HN.out).mono ?_
        rintro e ya1 ⟨rfl, hn⟩
        replace kr := kr.of hn
        replace ks := ks.of hn
        replace ka := ka.of hn
        replace kb := kb.of hn
        replace k1 := k1.of hn
        replace k2 := k2.of hn
        replace k3 := k3.of hn
        replace k4 := k4.of hn
        replace k5 := k5.of hn
        replace HD := Lib.hid (HD.out.of hn)
        replace HN := Lib.hid (HN.out.of hn)
        replace hbU := hbU.trans (hn.mono hbU.size)
        clear hn 
        clear c4
        cases on
        · skip
          have qM : okM = false := by have := OM.out; rw [← this]; simp
          have qs2 : sM = 0 := by have := SM.out; rw [qM] at this; exact this.symm
          have qv2 : vM = 0 := by have := VM.out; rw [qM] at this; exact this.symm
          subst qM
          subst qs2
          subst qv2
          have cb := RVar.c kb
          have f4 : eq4 (wd0 0) (wd1 0) (wd2 0) (wd3 0) 0 0 0 0 = true := by decide
          go_wp2_with fail
          refine (awake_any _).mono ?_
          rintro e' vz ⟨rfl, hn⟩
          have hbz := hbU.trans (hn.mono hbU.size)
          clear hn
          go_wp2
          go_ret
          exact ⟨rfl, hbz⟩
        · skip
          have c3 := BigVar.c k3
          go_wp2_with fail
          refine (Fits_is _ (d * e) 36 _ OD.out _ HD.out).mono ?_
          rintro e ya2 ⟨rfl, hn⟩
          replace kr := kr.of hn
          replace ks := ks.of hn
          replace ka := ka.of hn
          replace kb := kb.of hn
          replace k1 := k1.of hn
          replace k2 := k2.of hn
          replace k3 := k3.of hn
          replace k4 := k4.of hn
          replace k5 := k5.of hn
          replace HD := Lib.hid (HD.out.of hn)
          replace HN := Lib.hid (HN.out.of hn)
          replace hbU := hbU.trans (hn.mono hbU.size)
          clear hn 
          clear c3
          cases od
          · skip
            have qM : okM = false := by have := OM.out; rw [← this]; simp
            have qs2 : sM = 0 := by have := SM.out; rw [qM] at this; exact this.symm
            have qv2 : vM = 0 := by have := VM.out; rw [qM] at this; exact this.symm
            subst qM
            subst qs2
            subst qv2
            have cb := RVar.c kb
            have f4 : eq4 (wd0 0) (wd1 0) (wd2 0) (wd3 0) 0 0 0 0 = true := by decide
            go_wp2_with fail
            refine (awake_any _).mono ?_
            rintro e' vz ⟨rfl, hn⟩
            have hbz := hbU.trans (hn.mono hbU.size)
            clear hn
            go_wp2
            go_ret
            exact ⟨rfl, hbz⟩
          · skip
            have qM : okM = true := by have := OM.out; rw [← this]; rfl
            have qs2 : sM = n * m := by have := SM.out; rw [qM] at this; exact this.symm
            have qv2 : vM = d * e := by have := VM.out; rw [qM] at this; exact this.symm
            have S1 := Lib.hid (show sg sM = sM by rw [qs2]; exact sg_id (of_decide_eq_true ON.out))
            have S2 := Lib.hid (show sg vM = vM by rw [qv2]; exact sg_id (of_decide_eq_true OD.out))
            have Q1 := Lib.hid (show cmpI sM (n * m) = 0 by rw [qs2]; exact cmpI_eq _)
            have Q2 := Lib.hid (show cmpI vM (d * e) = 0 by rw [qv2]; exact cmpI_eq _)
            subst qM
            clear qs2 qv2
            go_wp2_with fail
            have cb := RVar.c kb
            have c4 := BigVar.c k4
            have c3 := BigVar.c k3
            have lb := kb.lt
            have l4 := k4.lt
            have l3 := k3.lt
            clear ka kr ks k1 k2 k5
            refine wp_region_up ya2.heap.size 14 [(true, 0), (true, 1), (true, 2), (true, 3), (true, 5), (false, 4), (false, 6), (true, 7), (true, 8), (true, 9), (true, 10), (true, 11), (true, 13), (false, 12)] (by kernel_rfl) (by kernel_rfl) (fun _ _ d _ _ h => by cases d <;> exact h) ?_
            have hb : Below ya2.heap.size ya2 ya2.drew := (Below.refl _ _).drew
            iterate 5
              refine wpS_takeL rfl rfl ?_
              go_big_quiet_step (rfl)
              refine wpQuiet_nil ?_
            refine wpS_doL rfl ?_
            intro K hK
            go_wp2_with ((first | (go_at_call 22; (with_reducible refine (Read_in sM S1.out _).mono ?_); rintro e' wa ⟨vm, rfl, hbm, hn⟩; have HR := Lib.hid hbm; have hvm := hbm.shape; clear hbm; obtain ⟨n10, a10, q10, e10, rfl⟩ := hvm) | (go_at_call 24; refine (bigCmp_is _ _ sM (n * m) 18 36 0 Q1.out _ HR.out (HN.out.of hb)).mono ?_; rintro e' wb ⟨rfl, hn⟩; clear HR) | (go_at_call 22; (with_reducible refine (Read_in vM S2.out _).mono ?_); rintro e' wc ⟨vm, rfl, hbm, hn⟩; have HR2 := Lib.hid hbm; have hvm := hbm.shape; clear hbm; obtain ⟨n11, a11, q11, e11, rfl⟩ := hvm)))
            try replace hb := hb.trans (hn.mono hb.size)
            refine hK.out _ _ (up_iff.2 hb) ?_
            clear hK K
            try clear hn
            refine wpS_doL rfl ?_
            intro K hK
            go_wp2_with ((first | (go_at_call 22; (with_reducible refine (Read_in sM S1.out _).mono ?_); rintro e' wa ⟨vm, rfl, hbm, hn⟩; have HR := Lib.hid hbm; have hvm := hbm.shape; clear hbm; obtain ⟨n10, a10, q10, e10, rfl⟩ := hvm) | (go_at_call 24; refine (bigCmp_is _ _ sM (n * m) 18 36 0 Q1.out _ HR.out (HN.out.of hb)).mono ?_; rintro e' wb ⟨rfl, hn⟩; clear HR) | (go_at_call 22; (with_reducible refine (Read_in vM S2.out _).mono ?_); rintro e' wc ⟨vm, rfl, hbm, hn⟩; have HR2 := Lib.hid hbm; have hvm := hbm.shape; clear hbm; obtain ⟨n11, a11, q11, e11, rfl⟩ := hvm)))
            try replace hb := hb.trans (hn.mono hb.size)
            refine hK.out _ _ (up_iff.2 hb) ?_
            clear hK K
            try clear hn
            iterate 6
              refine wpS_takeL rfl rfl ?_
              go_big_quiet_step (rfl)
              refine wpQuiet_nil ?_
            refine wpS_doL rfl ?_
            intro K hK
            go_wp2_with ((first | (go_at_call 22; (with_reducible refine (Read_in sM S1.out _).mono ?_); rintro e' wa ⟨vm, rfl, hbm, hn⟩; have HR := Lib.hid hbm; have hvm := hbm.shape; clear hbm; obtain ⟨n10, a10, q10, e10, rfl⟩ := hvm) | (go_at_call 24; refine (bigCmp_is _ _ sM (n * m) 18 36 0 Q1.out _ HR.out (HN.out.of hb)).mono ?_; rintro e' wb ⟨rfl, hn⟩; clear HR) | (go_at_call 22; (with_reducible refine (Read_in vM S2.out _).mono ?_); rintro e' wc ⟨vm, rfl, hbm, hn⟩; have HR2 := Lib.hid hbm; have hvm := hbm.shape; clear hbm; obtain ⟨n11, a11, q11, e11, rfl⟩ := hvm)))
            try replace hb := hb.trans (hn.mono hb.size)
            refine hK.out _ _ (up_iff.2 hb) ?_
            clear hK K
            try clear hn
            refine wpS_nil ?_
            simp only [List.drop_succ_cons, List.drop_zero]
            replace hbU := hbU.trans (hb.mono hbU.size)
            clear cb c4 c3 lb l4 l3
            go_wp2_with fail
            refine (bigCmp_is _ _ vM (d * e) 18 36 0 Q2.out _ HR2.out (HD.out.of hb)).mono ?_
            rintro e' wd ⟨rfl, hn⟩
            replace hbU := hbU.trans (hn.mono hbU.size)
            clear hn hb
            go_wp2_with fail
            refine (awake_any _).mono ?_
            rintro e' vz ⟨rfl, hn⟩
            have hbz := hbU.trans (hn.mono hbU.size)
            clear hn
            go_wp2
            go_ret
            exact ⟨rfl, hbz⟩
      · skip
        have c2 := BigVar.c k2
        go_wp2_with fail
        refine (Fits_is _ (m * d) 36 o2 O2.out _ HM.out).mono ?_
        rintro e x2 ⟨rfl, hn⟩
        replace kr := kr.of hn
        replace ks := ks.of hn
        replace ka := ka.of hn
        replace kb := kb.of hn
        replace k1 := k1.of hn
        replace k2 := k2.of hn
        replace k3 := k3.of hn
        replace k4 := k4.of hn
        replace k5 := k5.of hn
        replace HL := Lib.hid (HL.out.of hn)
        replace HM := Lib.hid (HM.out.of hn)
        replace HD := Lib.hid (HD.out.of hn)
        replace HN := Lib.hid (HN.out.of hn)
        replace HSM := Lib.hid (HSM.out.of hn)
        replace hbU := hbU.trans (hn.mono hbU.size)
        clear hn 
        clear c2
        cases o2
        · skip
          have qA : okA = false := by have := OA.out; rw [← this]; simp
          have qs : sA = 0 := by have := SA.out; rw [qA] at this; exact this.symm
          have qv : vA = 0 := by have := VA.out; rw [qA] at this; exact this.symm
          subst qA
          subst qs
          subst qv
          have ca := RVar.c ka
          have e4 : eq4 (wd0 0) (wd1 0) (wd2 0) (wd3 0) 0 0 0 0 = true := by decide
          clear HL HM HSM
          have c4 := BigVar.c k4
          go_wp2_with fail
          clear ca e4
          refine (Fits_is _ (n * m) 36 on ON.out _ HN.out).mono ?_
          rintro e yb1 ⟨rfl, hn⟩
          replace kr := kr.of hn
          replace ks := ks.of hn
          replace ka := ka.of hn
          replace kb := kb.of hn
          replace k1 := k1.of hn
          replace k2 := k2.of hn
          replace k3 := k3.of hn
          replace k4 := k4.of hn
          replace k5 := k5.of hn
          replace HD := Lib.hid (HD.out.of hn)
          replace HN := Lib.hid (HN.out.of hn)
          replace hbU := hbU.trans (hn.mono hbU.size)
          clear hn 
          clear c4
          cases on
          · skip
            have qM : okM = false := by have := OM.out; rw [← this]; simp
            have qs2 : sM = 0 := by have := SM.out; rw [qM] at this; exact this.symm
            have qv2 : vM = 0 := by have := VM.out; rw [qM] at this; exact this.symm
            subst qM
            subst qs2
            subst qv2
            have cb := RVar.c kb
            have f4 : eq4 (wd0 0) (wd1 0) (wd2 0) (wd3 0) 0 0 0 0 = true := by decide
            go_wp2_with fail
            refine (awake_any _).mono ?_
            rintro e' vz ⟨rfl, hn⟩
            have hbz := hbU.trans (hn.mono hbU.size)
            clear hn
            go_wp2
            go_ret
            exact ⟨rfl, hbz⟩
          · skip
            have c3 := BigVar.c k3
            go_wp2_with fail
            refine (Fits_is _ (d * e) 36 _ OD.out _ HD.out).mono ?_
            rintro e yb2 ⟨rfl, hn⟩
            replace kr := kr.of hn
            replace ks := ks.of hn
            replace ka := ka.of hn
            replace kb := kb.of hn
            replace k1 := k1.of hn
            replace k2 := k2.of hn
            replace k3 := k3.of hn
            replace k4 := k4.of hn
            replace k5 := k5.of hn
            replace HD := Lib.hid (HD.out.of hn)
            replace HN := Lib.hid (HN.out.of hn)
            replace hbU := hbU.trans (hn.mono hbU.size)
            clear hn 
            clear c3
            cases od
            · skip
              have qM : okM = false := by have := OM.out; rw [← this]; simp
              have qs2 : sM = 0 := by have := SM.out; rw [qM] at this; exact this.symm
              have qv2 : vM = 0 := by have := VM.out; rw [qM] at this; exact this.symm
              subst qM
              subst qs2
              subst qv2
              have cb := RVar.c kb
              have f4 : eq4 (wd0 0) (wd1 0) (wd2 0) (wd3 0) 0 0 0 0 = true := by decide
              go_wp2_with fail
              refine (awake_any _).mono ?_
              rintro e' vz ⟨rfl, hn⟩
              have hbz := hbU.trans (hn.mono hbU.size)
              clear hn
              go_wp2
              go_ret
              exact ⟨rfl, hbz⟩
            · skip
              have qM : okM = true := by have := OM.out; rw [← this]; rfl
              have qs2 : sM = n * m := by have := SM.out; rw [qM] at this; exact this.symm
              have qv2 : vM = d * e := by have := VM.out; rw [qM] at this; exact this.symm
              have S1 := Lib.hid (show sg sM = sM by rw [qs2]; exact sg_id (of_decide_eq_true ON.out))
              have S2 := Lib.hid (show sg vM = vM by rw [qv2]; exact sg_id (of_decide_eq_true OD.out))
              have Q1 := Lib.hid (show cmpI sM (n * m) = 0 by rw [qs2]; exact cmpI_eq _)
              have Q2 := Lib.hid (show cmpI vM (d * e) = 0 by rw [qv2]; exact cmpI_eq _)
              subst qM
              clear qs2 qv2
              go_wp2_with fail
              have cb := RVar.c kb
              have c4 := BigVar.c k4
              have c3 := BigVar.c k3
              have lb := kb.lt
              have l4 := k4.lt
              have l3 := k3.lt
              clear ka kr ks k1 k2 k5
              refine wp_region_up yb2.heap.size 14 [(true, 0), (true, 1), (true, 2), (true, 3), (true, 5), (false, 4), (false, 6), (true, 7), (true, 8), (true, 9), (true, 10), (true, 11), (true, 13), (false, 12)] (by kernel_rfl) (by kernel_rfl) (fun _ _ d _ _ h => by cases d <;> exact h) ?_
              have hb : Below yb2.heap.size yb2 yb2.drew := (Below.refl _ _).drew
              iterate 5
                refine wpS_takeL rfl rfl ?_
                go_big_quiet_step (rfl)
                refine wpQuiet_nil ?_
              refine wpS_doL rfl ?_
              intro K hK
              go_wp2_with ((first | (go_at_call 22; (with_reducible refine (Read_in sM S1.out _).mono ?_); rintro e' wa ⟨vm, rfl, hbm, hn⟩; have HR := Lib.hid hbm; have hvm := hbm.shape; clear hbm; obtain ⟨n10, a10, q10, e10, rfl⟩ := hvm) | (go_at_call 24; refine (bigCmp_is _ _ sM (n * m) 18 36 0 Q1.out _ HR.out (HN.out.of hb)).mono ?_; rintro e' wb ⟨rfl, hn⟩; clear HR) | (go_at_call 22; (with_reducible refine (Read_in vM S2.out _).mono ?_); rintro e' wc ⟨vm, rfl, hbm, hn⟩; have HR2 := Lib.hid hbm; have hvm := hbm.shape; clear hbm; obtain ⟨n11, a11, q11, e11, rfl⟩ := hvm)))
              try replace hb := hb.trans (hn.mono hb.size)
              refine hK.out _ _ (up_iff.2 hb) ?_
              clear hK K
              try clear hn
              refine wpS_doL rfl ?_
              intro K hK
              go_wp2_with ((first | (go_at_call 22; (with_reducible refine (Read_in sM S1.out _).mono ?_); rintro e' wa ⟨vm, rfl, hbm, hn⟩; have HR := Lib.hid hbm; have hvm := hbm.shape; clear hbm; obtain ⟨n10, a10, q10, e10, rfl⟩ := hvm) | (go_at_call 24; refine (bigCmp_is _ _ sM (n * m) 18 36 0 Q1.out _ HR.out (HN.out.of hb)).mono ?_; rintro e' wb ⟨rfl, hn⟩; clear HR) | (go_at_call 22; (with_reducible refine (Read_in vM S2.out _).mono ?_); rintro e' wc ⟨vm, rfl, hbm, hn⟩; have HR2 := Lib.hid hbm; have hvm := hbm.shape; clear hbm; obtain ⟨n11, a11, q11, e11, rfl⟩ := hvm)))
              try replace hb := hb.trans (hn.mono hb.size)
              refine hK.out _ _ (up_iff.2 hb) ?_
              clear hK K
              try clear hn
              iterate 6
                refine wpS_takeL rfl rfl ?_
                go_big_quiet_step (rfl)
                refine wpQuiet_nil ?_
              refine wpS_doL rfl ?_
              intro K hK
              go_wp2_with ((first | (go_at_call 22; (with_reducible refine (Read_in sM S1.out _).mono ?_); rintro e' wa ⟨vm, rfl, hbm, hn⟩; have HR := Lib.hid hbm; have hvm := hbm.shape; clear hbm; obtain ⟨n10, a10, q10, e10, rfl⟩ := hvm) | (go_at_call 24; refine (bigCmp_is _ _ sM (n * m) 18 36 0 Q1.out _ HR.out (HN.out.of hb)).mono ?_; rintro e' wb ⟨rfl, hn⟩; clear HR) | (go_at_call 22; (with_reducible refine (Read_in vM S2.out _).mono ?_); rintro e' wc ⟨vm, rfl, hbm, hn⟩; have HR2 := Lib.hid hbm; have hvm := hbm.shape; clear hbm; obtain ⟨n11, a11, q11, e11, rfl⟩ := hvm)))
              try replace hb := hb.trans (hn.mono hb.size)
              refine hK.out _ _ (up_iff.2 hb) ?_
              clear hK K
              try clear hn
              refine wpS_nil ?_
              simp only [List.drop_succ_cons, List.drop_zero]
              replace hbU := hbU.trans (hb.mono hbU.size)
              clear cb c4 c3 lb l4 l3
              go_wp2_with fail
              refine (bigCmp_is _ _ vM (d * e) 18 36 0 Q2.out _ HR2.out (HD.out.of hb)).mono ?_
              rintro e' wd ⟨rfl, hn⟩
              replace hbU := hbU.trans (hn.mono hbU.size)
              clear hn hb
              go_wp2_with fail
              refine (awake_any _).mono ?_
              rintro e' vz ⟨rfl, hn⟩
              have hbz := hbU.trans (hn.mono hbU.size)
              clear hn
              go_wp2
              go_ret
              exact ⟨rfl, hbz⟩
        · skip
          have c5 := BigVar.c k5
          go_wp2_with fail
          refine (Fits_is _ (n * e + m * d) 37 os OS.out _ HSM.out).mono ?_
          rintro e x3 ⟨rfl, hn⟩
          replace kr := kr.of hn
          replace ks := ks.of hn
          replace ka := ka.of hn
          replace kb := kb.of hn
          replace k1 := k1.of hn
          replace k2 := k2.of hn
          replace k3 := k3.of hn
          replace k4 := k4.of hn
          replace k5 := k5.of hn
          replace HL := Lib.hid (HL.out.of hn)
          replace HM := Lib.hid (HM.out.of hn)
          replace HD := Lib.hid (HD.out.of hn)
          replace HN := Lib.hid (HN.out.of hn)
          replace HSM := Lib.hid (HSM.out.of hn)
          replace hbU := hbU.trans (hn.mono hbU.size)
          clear hn 
          clear c5
          cases os
          · skip
            have qA : okA = false := by have := OA.out; rw [← this]; simp
            have qs : sA = 0 := by have := SA.out; rw [qA] at this; exact this.symm
            have qv : vA = 0 := by have := VA.out; rw [qA] at this; exact this.symm
            subst qA
            subst qs
            subst qv
            have ca := RVar.c ka
            have e4 : eq4 (wd0 0) (wd1 0) (wd2 0) (wd3 0) 0 0 0 0 = true := by decide
            clear HL HM HSM
            have c4 := BigVar.c k4
            go_wp2_with fail
            clear ca e4
            refine (Fits_is _ (n * m) 36 on ON.out _ HN.out).mono ?_
            rintro e yc1 ⟨rfl, hn⟩
            replace kr := kr.of hn
            replace ks := ks.of hn
            replace ka := ka.of hn
            replace kb := kb.of hn
            replace k1 := k1.of hn
            replace k2 := k2.of hn
            replace k3 := k3.of hn
            replace k4 := k4.of hn
            replace k5 := k5.of hn
            replace HD := Lib.hid (HD.out.of hn)
            replace HN := Lib.hid (HN.out.of hn)
            replace hbU := hbU.trans (hn.mono hbU.size)
            clear hn 
            clear c4
            cases on
            · skip
              have qM : okM = false := by have := OM.out; rw [← this]; simp
              have qs2 : sM = 0 := by have := SM.out; rw [qM] at this; exact this.symm
              have qv2 : vM = 0 := by have := VM.out; rw [qM] at this; exact this.symm
              subst qM
              subst qs2
              subst qv2
              have cb := RVar.c kb
              have f4 : eq4 (wd0 0) (wd1 0) (wd2 0) (wd3 0) 0 0 0 0 = true := by decide
              go_wp2_with fail
              refine (awake_any _).mono ?_
              rintro e' vz ⟨rfl, hn⟩
              have hbz := hbU.trans (hn.mono hbU.size)
              clear hn
              go_wp2
              go_ret
              exact ⟨rfl, hbz⟩
            · skip
              have c3 := BigVar.c k3
              go_wp2_with fail
              refine (Fits_is _ (d * e) 36 _ OD.out _ HD.out).mono ?_
              rintro e yc2 ⟨rfl, hn⟩
              replace kr := kr.of hn
              replace ks := ks.of hn
              replace ka := ka.of hn
              replace kb := kb.of hn
              replace k1 := k1.of hn
              replace k2 := k2.of hn
              replace k3 := k3.of hn
              replace k4 := k4.of hn
              replace k5 := k5.of hn
              replace HD := Lib.hid (HD.out.of hn)
              replace HN := Lib.hid (HN.out.of hn)
              replace hbU := hbU.trans (hn.mono hbU.size)
              clear hn 
              clear c3
              cases od
              · skip
                have qM : okM = false := by have := OM.out; rw [← this]; simp
                have qs2 : sM = 0 := by have := SM.out; rw [qM] at this; exact this.symm
                have qv2 : vM = 0 := by have := VM.out; rw [qM] at this; exact this.symm
                subst qM
                subst qs2
                subst qv2
                have cb := RVar.c kb
                have f4 : eq4 (wd0 0) (wd1 0) (wd2 0) (wd3 0) 0 0 0 0 = true := by decide
                go_wp2_with fail
                refine (awake_any _).mono ?_
                rintro e' vz ⟨rfl, hn⟩
                have hbz := hbU.trans (hn.mono hbU.size)
                clear hn
                go_wp2
                go_ret
                exact ⟨rfl, hbz⟩
              · skip
                have qM : okM = true := by have := OM.out; rw [← this]; rfl
                have qs2 : sM = n * m := by have := SM.out; rw [qM] at this; exact this.symm
                have qv2 : vM = d * e := by have := VM.out; rw [qM] at this; exact this.symm
                have S1 := Lib.hid (show sg sM = sM by rw [qs2]; exact sg_id (of_decide_eq_true ON.out))
                have S2 := Lib.hid (show sg vM = vM by rw [qv2]; exact sg_id (of_decide_eq_true OD.out))
                have Q1 := Lib.hid (show cmpI sM (n * m) = 0 by rw [qs2]; exact cmpI_eq _)
                have Q2 := Lib.hid (show cmpI vM (d * e) = 0 by rw [qv2]; exact cmpI_eq _)
                subst qM
                clear qs2 qv2
                go_wp2_with fail
                have cb := RVar.c kb
                have c4 := BigVar.c k4
                have c3 := BigVar.c k3
                have lb := kb.lt
                have l4 := k4.lt
                have l3 := k3.lt
                clear ka kr ks k1 k2 k5
                refine wp_region_up yc2.heap.size 14 [(true, 0), (true, 1), (true, 2), (true, 3), (true, 5), (false, 4), (false, 6), (true, 7), (true, 8), (true, 9), (true, 10), (true, 11), (true, 13), (false, 12)] (by kernel_rfl) (by kernel_rfl) (fun _ _ d _ _ h => by cases d <;> exact h) ?_
                have hb : Below yc2.heap.size yc2 yc2.drew := (Below.refl _ _).drew
                iterate 5
                  refine wpS_takeL rfl rfl ?_
                  go_big_quiet_step (rfl)
                  refine wpQuiet_nil ?_
                refine wpS_doL rfl ?_
                intro K hK
                go_wp2_with ((first | (go_at_call 22; (with_reducible refine (Read_in sM S1.out _).mono ?_); rintro e' wa ⟨vm, rfl, hbm, hn⟩; have HR := Lib.hid hbm; have hvm := hbm.shape; clear hbm; obtain ⟨n10, a10, q10, e10, rfl⟩ := hvm) | (go_at_call 24; refine (bigCmp_is _ _ sM (n * m) 18 36 0 Q1.out _ HR.out (HN.out.of hb)).mono ?_; rintro e' wb ⟨rfl, hn⟩; clear HR) | (go_at_call 22; (with_reducible refine (Read_in vM S2.out _).mono ?_); rintro e' wc ⟨vm, rfl, hbm, hn⟩; have HR2 := Lib.hid hbm; have hvm := hbm.shape; clear hbm; obtain ⟨n11, a11, q11, e11, rfl⟩ := hvm)))
                try replace hb := hb.trans (hn.mono hb.size)
                refine hK.out _ _ (up_iff.2 hb) ?_
                clear hK K
                try clear hn
                refine wpS_doL rfl ?_
                intro K hK
                go_wp2_with ((first | (go_at_call 22; (with_reducible refine (Read_in sM S1.out _).mono ?_); rintro e' wa ⟨vm, rfl, hbm, hn⟩; have HR := Lib.hid hbm; have hvm := hbm.shape; clear hbm; obtain ⟨n10, a10, q10, e10, rfl⟩ := hvm) | (go_at_call 24; refine (bigCmp_is _ _ sM (n * m) 18 36 0 Q1.out _ HR.out (HN.out.of hb)).mono ?_; rintro e' wb ⟨rfl, hn⟩; clear HR) | (go_at_call 22; (with_reducible refine (Read_in vM S2.out _).mono ?_); rintro e' wc ⟨vm, rfl, hbm, hn⟩; have HR2 := Lib.hid hbm; have hvm := hbm.shape; clear hbm; obtain ⟨n11, a11, q11, e11, rfl⟩ := hvm)))
                try replace hb := hb.trans (hn.mono hb.size)
                refine hK.out _ _ (up_iff.2 hb) ?_
                clear hK K
                try clear hn
                iterate 6
                  refine wpS_takeL rfl rfl ?_
                  go_big_quiet_step (rfl)
                  refine wpQuiet_nil ?_
                refine wpS_doL rfl ?_
                intro K hK
                go_wp2_with ((first | (go_at_call 22; (with_reducible refine (Read_in sM S1.out _).mono ?_); rintro e' wa ⟨vm, rfl, hbm, hn⟩; have HR := Lib.hid hbm; have hvm := hbm.shape; clear hbm; obtain ⟨n10, a10, q10, e10, rfl⟩ := hvm) | (go_at_call 24; refine (bigCmp_is _ _ sM (n * m) 18 36 0 Q1.out _ HR.out (HN.out.of hb)).mono ?_; rintro e' wb ⟨rfl, hn⟩; clear HR) | (go_at_call 22; (with_reducible refine (Read_in vM S2.out _).mono ?_); rintro e' wc ⟨vm, rfl, hbm, hn⟩; have HR2 := Lib.hid hbm; have hvm := hbm.shape; clear hbm; obtain ⟨n11, a11, q11, e11, rfl⟩ := hvm)))
                try replace hb := hb.trans (hn.mono hb.size)
                refine hK.out _ _ (up_iff.2 hb) ?_
                clear hK K
                try clear hn
                refine wpS_nil ?_
                simp only [List.drop_succ_cons, List.drop_zero]
                replace hbU := hbU.trans (hb.mono hbU.size)
                clear cb c4 c3 lb l4 l3
                go_wp2_with fail
                refine (bigCmp_is _ _ vM (d * e) 18 36 0 Q2.out _ HR2.out (HD.out.of hb)).mono ?_
                rintro e' wd ⟨rfl, hn⟩
                replace hbU := hbU.trans (hn.mono hbU.size)
                clear hn hb
                go_wp2_with fail
                refine (awake_any _).mono ?_
                rintro e' vz ⟨rfl, hn⟩
                have hbz := hbU.trans (hn.mono hbU.size)
                clear hn
                go_wp2
                go_ret
                exact ⟨rfl, hbz⟩
          · skip
            have c3 := BigVar.c k3
            go_wp2_with fail
            refine (Fits_is _ (d * e) 36 od OD.out _ HD.out).mono ?_
            rintro e x4 ⟨rfl, hn⟩
            replace kr := kr.of hn
            replace ks := ks.of hn
            replace ka := ka.of hn
            replace kb := kb.of hn
            replace k1 := k1.of hn
            replace k2 := k2.of hn
            replace k3 := k3.of hn
            replace k4 := k4.of hn
            replace k5 := k5.of hn
            replace HL := Lib.hid (HL.out.of hn)
            replace HM := Lib.hid (HM.out.of hn)
            replace HD := Lib.hid (HD.out.of hn)
            replace HN := Lib.hid (HN.out.of hn)
            replace HSM := Lib.hid (HSM.out.of hn)
            replace hbU := hbU.trans (hn.mono hbU.size)
            clear hn 
            clear c3
            cases od
            · skip
              have qA : okA = false := by have := OA.out; rw [← this]; simp
              have qs : sA = 0 := by have := SA.out; rw [qA] at this; exact this.symm
              have qv : vA = 0 := by have := VA.out; rw [qA] at this; exact this.symm
              subst qA
              subst qs
              subst qv
              have ca := RVar.c ka
              have e4 : eq4 (wd0 0) (wd1 0) (wd2 0) (wd3 0) 0 0 0 0 = true := by decide
              clear HL HM HSM
              have c4 := BigVar.c k4
              go_wp2_with fail
              clear ca e4
              refine (Fits_is _ (n * m) 36 on ON.out _ HN.out).mono ?_
              rintro e yd1 ⟨rfl, hn⟩
              replace kr := kr.of hn
              replace ks := ks.of hn
              replace ka := ka.of hn
              replace kb := kb.of hn
              replace k1 := k1.of hn
              replace k2 := k2.of hn
              replace k3 := k3.of hn
              replace k4 := k4.of hn
              replace k5 := k5.of hn
              replace HD := Lib.hid (HD.out.of hn)
              replace HN := Lib.hid (HN.out.of hn)
              replace hbU := hbU.trans (hn.mono hbU.size)
              clear hn 
              clear c4
              cases on
              · skip
                have qM : okM = false := by have := OM.out; rw [← this]; simp
                have qs2 : sM = 0 := by have := SM.out; rw [qM] at this; exact this.symm
                have qv2 : vM = 0 := by have := VM.out; rw [qM] at this; exact this.symm
                subst qM
                subst qs2
                subst qv2
                have cb := RVar.c kb
                have f4 : eq4 (wd0 0) (wd1 0) (wd2 0) (wd3 0) 0 0 0 0 = true := by decide
                go_wp2_with fail
                refine (awake_any _).mono ?_
                rintro e' vz ⟨rfl, hn⟩
                have hbz := hbU.trans (hn.mono hbU.size)
                clear hn
                go_wp2
                go_ret
                exact ⟨rfl, hbz⟩
              · skip
                have c3 := BigVar.c k3
                go_wp2_with fail
                refine (Fits_is _ (d * e) 36 _ OD.out _ HD.out).mono ?_
                rintro e yd2 ⟨rfl, hn⟩
                replace kr := kr.of hn
                replace ks := ks.of hn
                replace ka := ka.of hn
                replace kb := kb.of hn
                replace k1 := k1.of hn
                replace k2 := k2.of hn
                replace k3 := k3.of hn
                replace k4 := k4.of hn
                replace k5 := k5.of hn
                replace HD := Lib.hid (HD.out.of hn)
                replace HN := Lib.hid (HN.out.of hn)
                replace hbU := hbU.trans (hn.mono hbU.size)
                clear hn 
                clear c3
                have qM : okM = false := by have := OM.out; rw [← this]; simp
                have qs2 : sM = 0 := by have := SM.out; rw [qM] at this; exact this.symm
                have qv2 : vM = 0 := by have := VM.out; rw [qM] at this; exact this.symm
                subst qM
                subst qs2
                subst qv2
                have cb := RVar.c kb
                have f4 : eq4 (wd0 0) (wd1 0) (wd2 0) (wd3 0) 0 0 0 0 = true := by decide
                go_wp2_with fail
                refine (awake_any _).mono ?_
                rintro e' vz ⟨rfl, hn⟩
                have hbz := hbU.trans (hn.mono hbU.size)
                clear hn
                go_wp2
                go_ret
                exact ⟨rfl, hbz⟩
            · skip
              have qA : okA = true := by have := OA.out; rw [← this]; rfl
              have qs : sA = n * e + m * d := by have := SA.out; rw [qA] at this; exact this.symm
              have qv : vA = d * e := by have := VA.out; rw [qA] at this; exact this.symm
              have S3 := Lib.hid (show sg sA = sA by rw [qs]; exact sg_id (of_decide_eq_true OS.out))
              have S4 := Lib.hid (show sg vA = vA by rw [qv]; exact sg_id (of_decide_eq_true OD.out))
              have Q3 := Lib.hid (show cmpI sA (n * e + m * d) = 0 by rw [qs]; exact cmpI_eq _)
              have Q4 := Lib.hid (show cmpI vA (d * e) = 0 by rw [qv]; exact cmpI_eq _)
              subst qA
              clear qs qv
              go_wp2_with fail
              have ca := RVar.c ka
              have c5 := BigVar.c k5
              have c3 := BigVar.c k3
              have la := ka.lt
              have l5 := k5.lt
              have l3 := k3.lt
              have KB := Lib.hid kb
              have K3 := Lib.hid k3
              have K4 := Lib.hid k4
              clear kr ks ka kb k1 k2 k3 k4 k5
              refine wp_region_up x4.heap.size 15 [(true, 0), (true, 1), (true, 2), (true, 3), (true, 4), (true, 6), (false, 5), (false, 7), (true, 8), (true, 9), (true, 10), (true, 11), (true, 12), (true, 14), (false, 13)] (by kernel_rfl) (by kernel_rfl) (fun _ _ d _ _ h => by cases d <;> exact h) ?_
              have hb : Below x4.heap.size x4 x4.drew := (Below.refl _ _).drew
              iterate 6
                refine wpS_takeL rfl rfl ?_
                go_big_quiet_step (rfl)
                refine wpQuiet_nil ?_
              refine wpS_doL rfl ?_
              intro K hK
              go_wp2_with ((first | (go_at_call 22; (with_reducible refine (Read_in sA S3.out _).mono ?_); rintro e' wa ⟨vm, rfl, hbm, hn⟩; have HR := Lib.hid hbm; have hvm := hbm.shape; clear hbm; obtain ⟨n10, a10, q10, e10, rfl⟩ := hvm) | (go_at_call 24; refine (bigCmp_is _ _ sA (n * e + m * d) 18 37 0 Q3.out _ HR.out (HSM.out.of hb)).mono ?_; rintro e' wb ⟨rfl, hn⟩; clear HR) | (go_at_call 22; (with_reducible refine (Read_in vA S4.out _).mono ?_); rintro e' wc ⟨vm, rfl, hbm, hn⟩; have HR2 := Lib.hid hbm; have hvm := hbm.shape; clear hbm; obtain ⟨n11, a11, q11, e11, rfl⟩ := hvm)))
              try replace hb := hb.trans (hn.mono hb.size)
              refine hK.out _ _ (up_iff.2 hb) ?_
              clear hK K
              try clear hn
              refine wpS_doL rfl ?_
              intro K hK
              go_wp2_with ((first | (go_at_call 22; (with_reducible refine (Read_in sA S3.out _).mono ?_); rintro e' wa ⟨vm, rfl, hbm, hn⟩; have HR := Lib.hid hbm; have hvm := hbm.shape; clear hbm; obtain ⟨n10, a10, q10, e10, rfl⟩ := hvm) | (go_at_call 24; refine (bigCmp_is _ _ sA (n * e + m * d) 18 37 0 Q3.out _ HR.out (HSM.out.of hb)).mono ?_; rintro e' wb ⟨rfl, hn⟩; clear HR) | (go_at_call 22; (with_reducible refine (Read_in vA S4.out _).mono ?_); rintro e' wc ⟨vm, rfl, hbm, hn⟩; have HR2 := Lib.hid hbm; have hvm := hbm.shape; clear hbm; obtain ⟨n11, a11, q11, e11, rfl⟩ := hvm)))
              try replace hb := hb.trans (hn.mono hb.size)
              refine hK.out _ _ (up_iff.2 hb) ?_
              clear hK K
              try clear hn
              iterate 6
                refine wpS_takeL rfl rfl ?_
                go_big_quiet_step (rfl)
                refine wpQuiet_nil ?_
              refine wpS_doL rfl ?_
              intro K hK
              go_wp2_with ((first | (go_at_call 22; (with_reducible refine (Read_in sA S3.out _).mono ?_); rintro e' wa ⟨vm, rfl, hbm, hn⟩; have HR := Lib.hid hbm; have hvm := hbm.shape; clear hbm; obtain ⟨n10, a10, q10, e10, rfl⟩ := hvm) | (go_at_call 24; refine (bigCmp_is _ _ sA (n * e + m * d) 18 37 0 Q3.out _ HR.out (HSM.out.of hb)).mono ?_; rintro e' wb ⟨rfl, hn⟩; clear HR) | (go_at_call 22; (with_reducible refine (Read_in vA S4.out _).mono ?_); rintro e' wc ⟨vm, rfl, hbm, hn⟩; have HR2 := Lib.hid hbm; have hvm := hbm.shape; clear hbm; obtain ⟨n11, a11, q11, e11, rfl⟩ := hvm)))
              try replace hb := hb.trans (hn.mono hb.size)
              refine hK.out _ _ (up_iff.2 hb) ?_
              clear hK K
              try clear hn
              refine wpS_nil ?_
              simp only [List.drop_succ_cons, List.drop_zero]
              replace hbU := hbU.trans (hb.mono hbU.size)
              have kb : RVar wc u2.heap.size sM vM := KB.out.of hb
              have k3 : BigVar wc b3 n7 a7 q7 e7 := K3.out.of hb
              have k4 : BigVar wc b4 n8 a8 q8 e8 := K4.out.of hb
              replace HD := Lib.hid (HD.out.of hb)
              replace HN := Lib.hid (HN.out.of hb)
              clear ca c5 c3 la l5 l3 hb KB K3 K4 HL HM HSM
              go_wp2_with fail
              refine (bigCmp_is _ _ vA (d * e) 18 36 0 Q4.out _ HR2.out HD.out).mono ?_
              rintro e' x5 ⟨rfl, hn⟩
              replace hbU := hbU.trans (hn.mono hbU.size)
              replace kb : RVar x5 _ _ _ := kb.of hn
              replace k3 : BigVar x5 _ _ _ _ _ := k3.of hn
              replace k4 : BigVar x5 _ _ _ _ _ := k4.of hn
              replace HD := Lib.hid (HD.out.of hn)
              replace HN := Lib.hid (HN.out.of hn)
              clear hn HR2
              have c4 := BigVar.c k4
              go_wp2_with fail
              refine (Fits_is _ (n * m) 36 on ON.out _ HN.out).mono ?_
              rintro e ye1 ⟨rfl, hn⟩
              replace kb := kb.of hn
              replace k3 := k3.of hn
              replace k4 := k4.of hn
              replace HD := Lib.hid (HD.out.of hn)
              replace HN := Lib.hid (HN.out.of hn)
              replace hbU := hbU.trans (hn.mono hbU.size)
              clear hn 
              clear c4
              cases on
              · skip
                have qM : okM = false := by have := OM.out; rw [← this]; simp
                have qs2 : sM = 0 := by have := SM.out; rw [qM] at this; exact this.symm
                have qv2 : vM = 0 := by have := VM.out; rw [qM] at this; exact this.symm
                subst qM
                subst qs2
                subst qv2
                have cb := RVar.c kb
                have f4 : eq4 (wd0 0) (wd1 0) (wd2 0) (wd3 0) 0 0 0 0 = true := by decide
                go_wp2_with fail
                refine (awake_any _).mono ?_
                rintro e' vz ⟨rfl, hn⟩
                have hbz := hbU.trans (hn.mono hbU.size)
                clear hn
                go_wp2
                go_ret
                exact ⟨rfl, hbz⟩
              · skip
                have c3 := BigVar.c k3
                go_wp2_with fail
                refine (Fits_is _ (d * e) 36 _ OD.out _ HD.out).mono ?_
                rintro e ye2 ⟨rfl, hn⟩
                replace kb := kb.of hn
                replace k3 := k3.of hn
                replace k4 := k4.of hn
                replace HD := Lib.hid (HD.out.of hn)
                replace HN := Lib.hid (HN.out.of hn)
                replace hbU := hbU.trans (hn.mono hbU.size)
                clear hn 
                clear c3
                have qM : okM = true := by have := OM.out; rw [← this]; rfl
                have qs2 : sM = n * m := by have := SM.out; rw [qM] at this; exact this.symm
                have qv2 : vM = d * e := by have := VM.out; rw [qM] at this; exact this.symm
                have S1 := Lib.hid (show sg sM = sM by rw [qs2]; exact sg_id (of_decide_eq_true ON.out))
                have S2 := Lib.hid (show sg vM = vM by rw [qv2]; exact sg_id (of_decide_eq_true OD.out))
                have Q1 := Lib.hid (show cmpI sM (n * m) = 0 by rw [qs2]; exact cmpI_eq _)
                have Q2 := Lib.hid (show cmpI vM (d * e) = 0 by rw [qv2]; exact cmpI_eq _)
                subst qM
                clear qs2 qv2
                go_wp2_with fail
                have cb := RVar.c kb
                have c4 := BigVar.c k4
                have c3 := BigVar.c k3
                have lb := kb.lt
                have l4 := k4.lt
                have l3 := k3.lt
                refine wp_region_up ye2.heap.size 14 [(true, 0), (true, 1), (true, 2), (true, 3), (true, 5), (false, 4), (false, 6), (true, 7), (true, 8), (true, 9), (true, 10), (true, 11), (true, 13), (false, 12)] (by kernel_rfl) (by kernel_rfl) (fun _ _ d _ _ h => by cases d <;> exact h) ?_
                have hb : Below ye2.heap.size ye2 ye2.drew := (Below.refl _ _).drew
                iterate 5
                  refine wpS_takeL rfl rfl ?_
                  go_big_quiet_step (rfl)
                  refine wpQuiet_nil ?_
                refine wpS_doL rfl ?_
                intro K hK
                go_wp2_with ((first | (go_at_call 22; (with_reducible refine (Read_in sM S1.out _).mono ?_); rintro e' wa ⟨vm, rfl, hbm, hn⟩; have HR := Lib.hid hbm; have hvm := hbm.shape; clear hbm; obtain ⟨n10, a10, q10, e10, rfl⟩ := hvm) | (go_at_call 24; refine (bigCmp_is _ _ sM (n * m) 18 36 0 Q1.out _ HR.out (HN.out.of hb)).mono ?_; rintro e' wb ⟨rfl, hn⟩; clear HR) | (go_at_call 22; (with_reducible refine (Read_in vM S2.out _).mono ?_); rintro e' wc ⟨vm, rfl, hbm, hn⟩; have HR2 := Lib.hid hbm; have hvm := hbm.shape; clear hbm; obtain ⟨n11, a11, q11, e11, rfl⟩ := hvm)))
                try replace hb := hb.trans (hn.mono hb.size)
                refine hK.out _ _ (up_iff.2 hb) ?_
                clear hK K
                try clear hn
                refine wpS_doL rfl ?_
                intro K hK
                go_wp2_with ((first | (go_at_call 22; (with_reducible refine (Read_in sM S1.out _).mono ?_); rintro e' wa ⟨vm, rfl, hbm, hn⟩; have HR := Lib.hid hbm; have hvm := hbm.shape; clear hbm; obtain ⟨n10, a10, q10, e10, rfl⟩ := hvm) | (go_at_call 24; refine (bigCmp_is _ _ sM (n * m) 18 36 0 Q1.out _ HR.out (HN.out.of hb)).mono ?_; rintro e' wb ⟨rfl, hn⟩; clear HR) | (go_at_call 22; (with_reducible refine (Read_in vM S2.out _).mono ?_); rintro e' wc ⟨vm, rfl, hbm, hn⟩; have HR2 := Lib.hid hbm; have hvm := hbm.shape; clear hbm; obtain ⟨n11, a11, q11, e11, rfl⟩ := hvm)))
                try replace hb := hb.trans (hn.mono hb.size)
                refine hK.out _ _ (up_iff.2 hb) ?_
                clear hK K
                try clear hn
                iterate 6
                  refine wpS_takeL rfl rfl ?_
                  go_big_quiet_step (rfl)
                  refine wpQuiet_nil ?_
                refine wpS_doL rfl ?_
                intro K hK
                go_wp2_with ((first | (go_at_call 22; (with_reducible refine (Read_in sM S1.out _).mono ?_); rintro e' wa ⟨vm, rfl, hbm, hn⟩; have HR := Lib.hid hbm; have hvm := hbm.shape; clear hbm; obtain ⟨n10, a10, q10, e10, rfl⟩ := hvm) | (go_at_call 24; refine (bigCmp_is _ _ sM (n * m) 18 36 0 Q1.out _ HR.out (HN.out.of hb)).mono ?_; rintro e' wb ⟨rfl, hn⟩; clear HR) | (go_at_call 22; (with_reducible refine (Read_in vM S2.out _).mono ?_); rintro e' wc ⟨vm, rfl, hbm, hn⟩; have HR2 := Lib.hid hbm; have hvm := hbm.shape; clear hbm; obtain ⟨n11, a11, q11, e11, rfl⟩ := hvm)))
                try replace hb := hb.trans (hn.mono hb.size)
                refine hK.out _ _ (up_iff.2 hb) ?_
                clear hK K
                try clear hn
                refine wpS_nil ?_
                simp only [List.drop_succ_cons, List.drop_zero]
                replace hbU := hbU.trans (hb.mono hbU.size)
                clear cb c4 c3 lb l4 l3
                go_wp2_with fail
                refine (bigCmp_is _ _ vM (d * e) 18 36 0 Q2.out _ HR2.out (HD.out.of hb)).mono ?_
                rintro e' wd ⟨rfl, hn⟩
                replace hbU := hbU.trans (hn.mono hbU.size)
                clear hn hb
                go_wp2_with fail
                refine (awake_any _).mono ?_
                rintro e' vz ⟨rfl, hn⟩
                have hbz := hbU.trans (hn.mono hbU.size)
                clear hn
                go_wp2
                go_ret
                exact ⟨rfl, hbz⟩

theorem in0 : InI 0 := by unfold InI b255; decide
theorem in_if {b : Bool} {x : Int} (h : okI x = b) : InI (bif b then x else 0) := by
  cases b
  · exact in0
  · exact of_decide_eq_true h

theorem Counts_any (n d m e : Int) (w : World) (i1 : InI n) (i2 : InI d) (i3 : InI m) (i4 : InI e) :
    Calls Try.prog 13 #[rI n d, rI m e] w fun e' w' => e' = .returned (.bool true) ∧ Below w.heap.size w w' := by
  obtain ⟨o1, ho1⟩ : ∃ o, okI (n * e) = o := ⟨_, rfl⟩
  obtain ⟨o2, ho2⟩ : ∃ o, okI (m * d) = o := ⟨_, rfl⟩
  obtain ⟨os, hos⟩ : ∃ o, okI (n * e + m * d) = o := ⟨_, rfl⟩
  obtain ⟨od, hod⟩ : ∃ o, okI (d * e) = o := ⟨_, rfl⟩
  obtain ⟨on, hon⟩ : ∃ o, okI (n * m) = o := ⟨_, rfl⟩
  obtain ⟨r1, hr1⟩ : ∃ o, decide (0 < d) = o := ⟨_, rfl⟩
  obtain ⟨r2, hr2⟩ : ∃ o, decide (0 < e) = o := ⟨_, rfl⟩
  refine Counts_go n d m e w i1 i2 i3 i4 o1 o2 os od on r1 r2 _ _ ho1 ho2 hos hod hon hr1 hr2 rfl rfl _ _ _ _ rfl rfl rfl rfl (fun w => ?_) (fun w => ?_)
  · have T := RatAdd_go n d m e w i2 i4 _ (okI ((bif o1 then n * e else 0) + (bif o2 then m * d else 0))) od _ _ _ _ (in_if ho1) (in_if ho2) rfl rfl hod rfl (fun w => crossed_go n d m e w i1 i2 i3 i4 o1 o2 r1 r2 ho1 ho2 hr1 hr2 _ _ rfl rfl)
    cases o1 <;> cases o2 <;> cases r1 <;> cases r2 <;> try exact T
    simp only [cond_true] at T
    rw [hos] at T
    cases os <;> cases od <;> exact T
  · have T := RatMul_go n d m e w i1 i2 i3 i4 on od r1 r2 _ _ hon rfl hod rfl hr1 hr2
    cases on <;> cases od <;> cases r1 <;> cases r2 <;> exact T
end Go.Proofs.Ytgddpkopbiendaa
