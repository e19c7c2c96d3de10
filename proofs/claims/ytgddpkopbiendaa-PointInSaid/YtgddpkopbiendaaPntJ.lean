/- The walk of gromalaw03's PointIn. Conditions: none. -/
import Derived.Test.YtgddpkopbiendaaPntG
import Derived.Test.YtgddpkopbiendaaOpenP
import Derived.Test.YtgddpkopbiendaaRegH
namespace Go.Proofs.Ytgddpkopbiendaa
open Go.RowKit

theorem fac_turn (ax ay bx b_y cx cy dx dy : Int) : fac cx cy dx dy bx b_y ax ay = fac ax ay bx b_y cx cy dx dy := by
  unfold fac
  rw [way_swap ax ay bx b_y cx cy, way_swap ax ay bx b_y dx dy, Int.neg_mul_neg, Int.mul_comm (way cx cy dx dy bx b_y), Bool.and_comm]
theorem allocQ : AllocRuns Try.prog 60 #[.int .i64 0, .int .i64 0] := fun w => by kernel_rfl
theorem jIn_is (ax ay bx b_y cx cy px py r : Int) (h : inW ax ay bx b_y cx cy px py = r) (v : World) :
    Calls Try.prog 53 #[pI ax ay, pI bx b_y, pI cx cy, pI px py] v fun e w' => e = .returned (.int .i64 r) ∧ Below v.heap.size v w' := h ▸ rIn_any ax ay bx b_y cx cy px py v
theorem pIn_is (ax ay bx b_y cx cy px py r : Int) (h : inW ax ay bx b_y cx cy px py = r) (v : World) :
    Calls Try.prog 52 #[pI ax ay, pI bx b_y, pI cx cy, pI px py] v fun e w' => e = .returned (.int .i64 r) ∧ Below v.heap.size v w' := h ▸ pIn_any ax ay bx b_y cx cy px py v
theorem rFac_is (ax ay bx b_y cx cy px py : Int) (r : Bool) (h : fac ax ay bx b_y cx cy px py = r) (v : World) :
    Calls Try.prog 55 #[pI ax ay, pI bx b_y, pI cx cy, pI px py] v fun e w' => e = .returned (.bool r) ∧ Below v.heap.size v w' := h ▸ rFac_any ax ay bx b_y cx cy px py v
theorem pFac_is (ax ay bx b_y cx cy px py : Int) (r : Bool) (h : fac ax ay bx b_y cx cy px py = r) (v : World) :
    Calls Try.prog 54 #[pI ax ay, pI bx b_y, pI cx cy, pI px py] v fun e w' => e = .returned (.bool r) ∧ Below v.heap.size v w' := h ▸ pFac_any ax ay bx b_y cx cy px py v
theorem QVar.f {w : World} {b : Nat} {x y : Int} (h : QVar w b x y) : w.frozen? ⟨b, 0, none⟩ = false ∧ w.frozen? ⟨b, 1, none⟩ = false := ⟨h.free 0, h.free 1⟩
section
variable {w : World} {b1 b2 b3 b4 : Nat} {x1 y1 x2 y2 x3 y3 x4 y4 : Value}
abbrev sets4 (w : World) (b1 b2 b3 b4 : Nat) (x1 y1 x2 y2 x3 y3 x4 y4 : Value) : World :=
  (((((((w.setCell ⟨b1, 0, none⟩ x1).setCell ⟨b1, 1, none⟩ y1).setCell ⟨b2, 0, none⟩ x2).setCell ⟨b2, 1, none⟩ y2).setCell ⟨b3, 0, none⟩ x3).setCell ⟨b3, 1, none⟩ y3).setCell ⟨b4, 0, none⟩ x4).setCell ⟨b4, 1, none⟩ y4
theorem sets4_blk {b : Nat} {c : Array Value} {t : TypeId} (h : Blk w b c t) (h1 : b ≠ b1) (h2 : b ≠ b2) (h3 : b ≠ b3) (h4 : b ≠ b4) : Blk (sets4 w b1 b2 b3 b4 x1 y1 x2 y2 x3 y3 x4 y4) b c t :=
  (((((((h.set h1 _ _ _).set h1 _ _ _).set h2 _ _ _).set h2 _ _ _).set h3 _ _ _).set h3 _ _ _).set h4 _ _ _).set h4 _ _ _
theorem sets4_vars {t : TypeId} {p q : Value} (d : b1 ≠ b2 ∧ b1 ≠ b3 ∧ b1 ≠ b4 ∧ b2 ≠ b3 ∧ b2 ≠ b4 ∧ b3 ≠ b4) (g1 : Blk w b1 #[p, q] t) (g2 : Blk w b2 #[p, q] t) (g3 : Blk w b3 #[p, q] t) (g4 : Blk w b4 #[p, q] t) :
    Blk (sets4 w b1 b2 b3 b4 x1 y1 x2 y2 x3 y3 x4 y4) b1 #[x1, y1] t ∧ Blk (sets4 w b1 b2 b3 b4 x1 y1 x2 y2 x3 y3 x4 y4) b2 #[x2, y2] t ∧ Blk (sets4 w b1 b2 b3 b4 x1 y1 x2 y2 x3 y3 x4 y4) b3 #[x3, y3] t ∧ Blk (sets4 w b1 b2 b3 b4 x1 y1 x2 y2 x3 y3 x4 y4) b4 #[x4, y4] t := by
  obtain ⟨d12, d13, d14, d23, d24, d34⟩ := d
  refine ⟨?_, ?_, ?_, ?_⟩
  · exact (((((((Blk.put g1 0 _).put 1 _).set d12 _ _ _).set d12 _ _ _).set d13 _ _ _).set d13 _ _ _).set d14 _ _ _).set d14 _ _ _
  · have h : Blk ((w.setCell ⟨b1, 0, none⟩ x1).setCell ⟨b1, 1, none⟩ y1) b2 #[p, q] t := (g2.set d12.symm _ _ _).set d12.symm _ _ _
    exact (((((Blk.put h 0 _).put 1 _).set d23 _ _ _).set d23 _ _ _).set d24 _ _ _).set d24 _ _ _
  · have h : Blk ((((w.setCell ⟨b1, 0, none⟩ x1).setCell ⟨b1, 1, none⟩ y1).setCell ⟨b2, 0, none⟩ x2).setCell ⟨b2, 1, none⟩ y2) b3 #[p, q] t := (((g3.set d13.symm _ _ _).set d13.symm _ _ _).set d23.symm _ _ _).set d23.symm _ _ _
    exact (((Blk.put h 0 _).put 1 _).set d34 _ _ _).set d34 _ _ _
  · have h : Blk ((((((w.setCell ⟨b1, 0, none⟩ x1).setCell ⟨b1, 1, none⟩ y1).setCell ⟨b2, 0, none⟩ x2).setCell ⟨b2, 1, none⟩ y2).setCell ⟨b3, 0, none⟩ x3).setCell ⟨b3, 1, none⟩ y3) b4 #[p, q] t := (((((g4.set d14.symm _ _ _).set d14.symm _ _ _).set d24.symm _ _ _).set d24.symm _ _ _).set d34.symm _ _ _).set d34.symm _ _ _
    exact (Blk.put h 0 _).put 1 _
theorem sets4_below {B : Nat} {W : World} (h : Below B W w) (h1 : B ≤ b1) (h2 : B ≤ b2) (h3 : B ≤ b3) (h4 : B ≤ b4) : Below B W (sets4 w b1 b2 b3 b4 x1 y1 x2 y2 x3 y3 x4 y4) :=
  ((((((((h.setCell h1 _).setCell h1 _).setCell h2 _).setCell h2 _).setCell h3 _).setCell h3 _).setCell h4 _).setCell h4 _)
end

set_option maxRecDepth 100000 in
set_option maxHeartbeats 4000000 in
theorem PIn_go (ax ay bx b_y cx cy dx dy i : Int) (f : Bool) (hi : inW ax ay bx b_y cx cy dx dy = i) (hf : fac ax ay bx b_y cx cy dx dy = f) (hg : fac cx cy dx dy bx b_y ax ay = f) (w : World) :
    Calls Try.prog 11 #[fI ax ay bx b_y cx cy dx dy] w fun e w' => e = .returned (.bool true) ∧ Below w.heap.size w w' := by
  have HI := Lib.hid hi
  have HF := Lib.hid hf
  have HG := Lib.hid hg
  clear hi hf hg
  go_enter Try.func11, Try.ntmps11
  go_wp2_with fail
  refine name_world ?_
  intro W hW
  have kz : Blk W w.heap.size #[.int .i64 ax, .int .i64 ay, .int .i64 bx, .int .i64 b_y, .int .i64 cx, .int .i64 cy, .int .i64 dx, .int .i64 dy] 69 := by rw [hW]; exact Blk.new w _ _
  have hb0 : Below w.heap.size w W := by rw [hW]; exact below_a1 _ _
  clear hW
  have cz0 := kz.cell 0
  have cz1 := kz.cell 1
  have cz2 := kz.cell 2
  have cz3 := kz.cell 3
  have cz4 := kz.cell 4
  have cz5 := kz.cell 5
  have cz6 := kz.cell 6
  have cz7 := kz.cell 7
  have lz := kz.lt
  simp only [List.getElem?_toArray, List.getElem?_cons_zero, List.getElem?_cons_succ] at cz0 cz1 cz2 cz3 cz4 cz5 cz6 cz7
  have KZ := Lib.hid kz
  clear kz
  refine Far.wp_region_FG4 16 12 13 14 15 [(0, 0), (0, 1), (0, 3), (0, 4), (0, 6), (0, 7), (0, 9), (0, 10), (1, 2), (1, 5), (1, 8), (1, 11)] [(3, 16), (3, 17), (3, 18), (3, 19)] (by kernel_rfl) (by kernel_rfl) (fun _ _ d _ _ => by cases d <;> exact Iff.rfl) allocQ rfl rfl rfl rfl rfl rfl rfl rfl rfl rfl rfl rfl rfl ?_
  have hb : Below W.heap.size W W.drew := (Below.refl _ _).drew
  iterate 8
    refine wpFG_take0 rfl rfl ?_
    go_big_quiet_step (rfl)
    refine wpQuiet_nil ?_
  refine wpFG_do rfl ?_
  intro w1 hg K hK
  replace hb := hb.trans (hg.mono hb.size)
  clear hg
  go_wp2_with ((first | (go_at_call 39; (with_reducible refine (pref_any ax ay _).mono ?_); rintro e w2 ⟨rfl, hn⟩) | (go_at_call 39; (with_reducible refine (pref_any bx b_y _).mono ?_); rintro e w2 ⟨rfl, hn⟩) | (go_at_call 39; (with_reducible refine (pref_any cx cy _).mono ?_); rintro e w2 ⟨rfl, hn⟩) | (go_at_call 39; (with_reducible refine (pref_any dx dy _).mono ?_); rintro e w2 ⟨rfl, hn⟩)))
  refine hK.out _ _ hn ?_
  replace hb := hb.trans (hn.mono hb.size)
  clear hK K
  clear hn
  refine wpFG_do rfl ?_
  intro w1 hg K hK
  replace hb := hb.trans (hg.mono hb.size)
  clear hg
  go_wp2_with ((first | (go_at_call 39; (with_reducible refine (pref_any ax ay _).mono ?_); rintro e w2 ⟨rfl, hn⟩) | (go_at_call 39; (with_reducible refine (pref_any bx b_y _).mono ?_); rintro e w2 ⟨rfl, hn⟩) | (go_at_call 39; (with_reducible refine (pref_any cx cy _).mono ?_); rintro e w2 ⟨rfl, hn⟩) | (go_at_call 39; (with_reducible refine (pref_any dx dy _).mono ?_); rintro e w2 ⟨rfl, hn⟩)))
  refine hK.out _ _ hn ?_
  replace hb := hb.trans (hn.mono hb.size)
  clear hK K
  clear hn
  refine wpFG_do rfl ?_
  intro w1 hg K hK
  replace hb := hb.trans (hg.mono hb.size)
  clear hg
  go_wp2_with ((first | (go_at_call 39; (with_reducible refine (pref_any ax ay _).mono ?_); rintro e w2 ⟨rfl, hn⟩) | (go_at_call 39; (with_reducible refine (pref_any bx b_y _).mono ?_); rintro e w2 ⟨rfl, hn⟩) | (go_at_call 39; (with_reducible refine (pref_any cx cy _).mono ?_); rintro e w2 ⟨rfl, hn⟩) | (go_at_call 39; (with_reducible refine (pref_any dx dy _).mono ?_); rintro e w2 ⟨rfl, hn⟩)))
  refine hK.out _ _ hn ?_
  replace hb := hb.trans (hn.mono hb.size)
  clear hK K
  clear hn
  refine wpFG_do rfl ?_
  intro w1 hg K hK
  replace hb := hb.trans (hg.mono hb.size)
  clear hg
  go_wp2_with ((first | (go_at_call 39; (with_reducible refine (pref_any ax ay _).mono ?_); rintro e w2 ⟨rfl, hn⟩) | (go_at_call 39; (with_reducible refine (pref_any bx b_y _).mono ?_); rintro e w2 ⟨rfl, hn⟩) | (go_at_call 39; (with_reducible refine (pref_any cx cy _).mono ?_); rintro e w2 ⟨rfl, hn⟩) | (go_at_call 39; (with_reducible refine (pref_any dx dy _).mono ?_); rintro e w2 ⟨rfl, hn⟩)))
  refine hK.out _ _ hn ?_
  replace hb := hb.trans (hn.mono hb.size)
  clear hK K
  clear hn
  refine wpFG_nil ?_
  clear hb
  intro w1 hg hb b1 b2 b3 b4 hne nb1 nb2 nb3 nb4
  clear hg
  simp only [Act.put, ptrTo, List.setIfInBounds_toArray, List.set_cons_succ, List.set_cons_zero]
  obtain ⟨lb1, nb1⟩ := nb1
  obtain ⟨lb2, nb2⟩ := nb2
  obtain ⟨lb3, nb3⟩ := nb3
  obtain ⟨lb4, nb4⟩ := nb4
  have g1 : QVar w1 b1 0 0 := nb1
  have g2 : QVar w1 b2 0 0 := nb2
  have g3 : QVar w1 b3 0 0 := nb3
  have g4 : QVar w1 b4 0 0 := nb4
  have c1 := QVar.c g1
  have f1 := QVar.f g1
  have c2 := QVar.c g2
  have f2 := QVar.f g2
  have c3 := QVar.c g3
  have f3 := QVar.f g3
  have c4 := QVar.c g4
  have f4 := QVar.f g4
  clear cz0 cz1 cz2 cz3 cz4 cz5 cz6 cz7 lz
  refine wpG_do3 rfl ?_
  intro K hK
  go_wp2_with (fail)
  refine hK.out _ _ ?_
  clear hK K
  refine wpG_do3 rfl ?_
  intro K hK
  go_wp2_with (fail)
  refine hK.out _ _ ?_
  clear hK K
  refine wpG_do3 rfl ?_
  intro K hK
  go_wp2_with (fail)
  refine hK.out _ _ ?_
  clear hK K
  refine wpG_do3 rfl ?_
  intro K hK
  go_wp2_with (fail)
  refine hK.out _ _ ?_
  clear hK K
  refine wpG_nil ?_
  refine list_world ?_
  intro U hU
  obtain ⟨k1, k2, k3, k4⟩ : QVar U b1 ax ay ∧ QVar U b2 bx b_y ∧ QVar U b3 cx cy ∧ QVar U b4 dx dy := by rw [hU]; exact sets4_vars hne g1 g2 g3 g4
  have nz : w.heap.size ≠ b1 ∧ w.heap.size ≠ b2 ∧ w.heap.size ≠ b3 ∧ w.heap.size ≠ b4 := by have := KZ.out.lt; omega
  have kz : Blk U w.heap.size #[.int .i64 ax, .int .i64 ay, .int .i64 bx, .int .i64 b_y, .int .i64 cx, .int .i64 cy, .int .i64 dx, .int .i64 dy] 69 := by rw [hU]; exact sets4_blk (KZ.out.of hb) nz.1 nz.2.1 nz.2.2.1 nz.2.2.2
  replace hb0 : Below w.heap.size w U := by
    rw [hU]
    exact sets4_below (hb0.trans (hb.mono hb0.size)) (Nat.le_trans hb0.size lb1) (Nat.le_trans hb0.size lb2) (Nat.le_trans hb0.size lb3) (Nat.le_trans hb0.size lb4)
  clear hU g1 g2 g3 g4 nb1 nb2 nb3 nb4 c1 f1 c2 f2 c3 f3 c4 f4 lb1 lb2 lb3 lb4 hb KZ nz hne
  have c1 := QVar.c k1
  have c2 := QVar.c k2
  have c3 := QVar.c k3
  have c4 := QVar.c k4
  have l1 := k1.lt
  have l2 := k2.lt
  have l3 := k3.lt
  have l4 := k4.lt
  have cz0 := kz.cell 0
  have cz1 := kz.cell 1
  have cz2 := kz.cell 2
  have cz3 := kz.cell 3
  have cz4 := kz.cell 4
  have cz5 := kz.cell 5
  have cz6 := kz.cell 6
  have cz7 := kz.cell 7
  have lz := kz.lt
  simp only [List.getElem?_toArray, List.getElem?_cons_zero, List.getElem?_cons_succ] at cz0 cz1 cz2 cz3 cz4 cz5 cz6 cz7
  have KZ := Lib.hid kz
  clear kz k1 k2 k3 k4
  go_wp2_with fail
  refine wp_region_up U.heap.size 50 [(true, 0), (true, 1), (true, 2), (true, 3), (true, 4), (true, 5), (true, 6), (true, 7), (true, 9), (true, 10), (true, 11), (true, 12), (false, 8), (false, 13), (true, 14), (true, 15), (true, 16), (true, 17), (true, 18), (true, 19), (true, 20), (true, 21), (true, 22), (true, 23), (true, 25), (true, 26), (true, 27), (true, 28), (false, 24), (false, 29), (true, 30), (true, 31), (true, 32), (true, 33), (true, 34), (true, 35), (true, 36), (true, 37), (true, 38), (true, 39), (true, 40), (true, 42), (true, 43), (true, 44), (true, 45), (true, 46), (true, 47), (true, 48), (true, 49), (false, 41)] (by kernel_rfl) (by kernel_rfl) (fun _ _ d _ _ h => by cases d <;> exact h) ?_
  have hb : Below U.heap.size U U.drew := (Below.refl _ _).drew
  iterate 12
    refine wpS_takeL rfl rfl ?_
    go_big_quiet_step (rfl)
    refine wpQuiet_nil ?_
  refine wpS_doL rfl ?_
  intro K hK
  go_wp2_with ((first | (go_at_call 52; (with_reducible refine (pIn_is ax ay bx b_y cx cy dx dy i HI.out _).mono ?_); rintro e w2 ⟨rfl, hn⟩) | (go_at_call 53; (with_reducible refine (jIn_is ax ay bx b_y cx cy dx dy i HI.out _).mono ?_); rintro e w2 ⟨rfl, hn⟩) | (go_at_call 55; (with_reducible refine (rFac_is ax ay bx b_y cx cy dx dy f HF.out _).mono ?_); rintro e w2 ⟨rfl, hn⟩) | (go_at_call 54; (with_reducible refine (pFac_is ax ay bx b_y cx cy dx dy f HF.out _).mono ?_); rintro e w2 ⟨rfl, hn⟩) | (go_at_call 54; (with_reducible refine (pFac_is cx cy dx dy bx b_y ax ay f HG.out _).mono ?_); rintro e w2 ⟨rfl, hn⟩)))
  replace hb := hb.trans (hn.mono hb.size)
  refine hK.out _ _ (up_iff.2 hb) ?_
  clear hK K
  clear hn
  refine wpS_doL rfl ?_
  intro K hK
  go_wp2_with ((first | (go_at_call 52; (with_reducible refine (pIn_is ax ay bx b_y cx cy dx dy i HI.out _).mono ?_); rintro e w2 ⟨rfl, hn⟩) | (go_at_call 53; (with_reducible refine (jIn_is ax ay bx b_y cx cy dx dy i HI.out _).mono ?_); rintro e w2 ⟨rfl, hn⟩) | (go_at_call 55; (with_reducible refine (rFac_is ax ay bx b_y cx cy dx dy f HF.out _).mono ?_); rintro e w2 ⟨rfl, hn⟩) | (go_at_call 54; (with_reducible refine (pFac_is ax ay bx b_y cx cy dx dy f HF.out _).mono ?_); rintro e w2 ⟨rfl, hn⟩) | (go_at_call 54; (with_reducible refine (pFac_is cx cy dx dy bx b_y ax ay f HG.out _).mono ?_); rintro e w2 ⟨rfl, hn⟩)))
  replace hb := hb.trans (hn.mono hb.size)
  refine hK.out _ _ (up_iff.2 hb) ?_
  clear hK K
  clear hn
  iterate 14
    refine wpS_takeL rfl rfl ?_
    go_big_quiet_step (rfl)
    refine wpQuiet_nil ?_
  refine wpS_doL rfl ?_
  intro K hK
  go_wp2_with ((first | (go_at_call 52; (with_reducible refine (pIn_is ax ay bx b_y cx cy dx dy i HI.out _).mono ?_); rintro e w2 ⟨rfl, hn⟩) | (go_at_call 53; (with_reducible refine (jIn_is ax ay bx b_y cx cy dx dy i HI.out _).mono ?_); rintro e w2 ⟨rfl, hn⟩) | (go_at_call 55; (with_reducible refine (rFac_is ax ay bx b_y cx cy dx dy f HF.out _).mono ?_); rintro e w2 ⟨rfl, hn⟩) | (go_at_call 54; (with_reducible refine (pFac_is ax ay bx b_y cx cy dx dy f HF.out _).mono ?_); rintro e w2 ⟨rfl, hn⟩) | (go_at_call 54; (with_reducible refine (pFac_is cx cy dx dy bx b_y ax ay f HG.out _).mono ?_); rintro e w2 ⟨rfl, hn⟩)))
  try replace hb := hb.trans (hn.mono hb.size)
  refine hK.out _ _ (up_iff.2 hb) ?_
  clear hK K
  try clear hn
  refine wpS_doL rfl ?_
  intro K hK
  go_wp2_with ((first | (go_at_call 52; (with_reducible refine (pIn_is ax ay bx b_y cx cy dx dy i HI.out _).mono ?_); rintro e w2 ⟨rfl, hn⟩) | (go_at_call 53; (with_reducible refine (jIn_is ax ay bx b_y cx cy dx dy i HI.out _).mono ?_); rintro e w2 ⟨rfl, hn⟩) | (go_at_call 55; (with_reducible refine (rFac_is ax ay bx b_y cx cy dx dy f HF.out _).mono ?_); rintro e w2 ⟨rfl, hn⟩) | (go_at_call 54; (with_reducible refine (pFac_is ax ay bx b_y cx cy dx dy f HF.out _).mono ?_); rintro e w2 ⟨rfl, hn⟩) | (go_at_call 54; (with_reducible refine (pFac_is cx cy dx dy bx b_y ax ay f HG.out _).mono ?_); rintro e w2 ⟨rfl, hn⟩)))
  try replace hb := hb.trans (hn.mono hb.size)
  refine hK.out _ _ (up_iff.2 hb) ?_
  clear hK K
  try clear hn
  iterate 19
    refine wpS_takeL rfl rfl ?_
    go_big_quiet_step (rfl)
    refine wpQuiet_nil ?_
  refine wpS_doL rfl ?_
  intro K hK
  go_wp2_with ((first | (go_at_call 52; (with_reducible refine (pIn_is ax ay bx b_y cx cy dx dy i HI.out _).mono ?_); rintro e w2 ⟨rfl, hn⟩) | (go_at_call 53; (with_reducible refine (jIn_is ax ay bx b_y cx cy dx dy i HI.out _).mono ?_); rintro e w2 ⟨rfl, hn⟩) | (go_at_call 55; (with_reducible refine (rFac_is ax ay bx b_y cx cy dx dy f HF.out _).mono ?_); rintro e w2 ⟨rfl, hn⟩) | (go_at_call 54; (with_reducible refine (pFac_is ax ay bx b_y cx cy dx dy f HF.out _).mono ?_); rintro e w2 ⟨rfl, hn⟩) | (go_at_call 54; (with_reducible refine (pFac_is cx cy dx dy bx b_y ax ay f HG.out _).mono ?_); rintro e w2 ⟨rfl, hn⟩)))
  try replace hb := hb.trans (hn.mono hb.size)
  refine hK.out _ _ (up_iff.2 hb) ?_
  clear hK K
  try clear hn
  refine wpS_nil ?_
  simp only [List.drop_succ_cons, List.drop_zero]
  have kz := KZ.out.of hb
  replace hb0 := hb0.trans (hb.mono hb0.size)
  clear hb cz0 cz1 cz2 cz3 cz4 cz5 cz6 cz7 lz KZ c1 c2 c3 c4 l1 l2 l3 l4
  have cz0 := kz.cell 0
  have cz1 := kz.cell 1
  have cz2 := kz.cell 2
  have cz3 := kz.cell 3
  have cz4 := kz.cell 4
  have cz5 := kz.cell 5
  have cz6 := kz.cell 6
  have cz7 := kz.cell 7
  have lz := kz.lt
  simp only [List.getElem?_toArray, List.getElem?_cons_zero, List.getElem?_cons_succ] at cz0 cz1 cz2 cz3 cz4 cz5 cz6 cz7
  
  go_wp2_with fail
  clear kz cz0 cz1 cz2 cz3 cz4 cz5 cz6 cz7 lz
  refine (pFac_is ax ay bx b_y cx cy dx dy f HF.out _).mono ?_
  rintro e u1 ⟨rfl, hn⟩
  replace hb0 := hb0.trans (hn.mono hb0.size)
  clear hn 
  go_wp2_with fail
  refine (pawake_any _).mono ?_
  rintro e u2 ⟨rfl, hn⟩
  replace hb0 := hb0.trans (hn.mono hb0.size)
  clear hn 
  go_wp2
  go_ret
  exact ⟨by simp, hb0⟩

theorem PIn_any (ax ay bx b_y cx cy dx dy : Int) (w : World) :
    Calls Try.prog 11 #[fI ax ay bx b_y cx cy dx dy] w fun e w' => e = .returned (.bool true) ∧ Below w.heap.size w w' :=
  PIn_go ax ay bx b_y cx cy dx dy _ _ rfl rfl (fac_turn _ _ _ _ _ _ _ _) w
end Go.Proofs.Ytgddpkopbiendaa
