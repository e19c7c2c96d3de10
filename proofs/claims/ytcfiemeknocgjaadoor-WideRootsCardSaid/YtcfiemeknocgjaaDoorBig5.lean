/- The walks of gromaref01's Add, Sub. Conditions: fewer than 2^28 digits. -/
import Derived.Test.YtcfiemeknocgjaaDoorBig4
namespace Go.Proofs.YtcfiemeknocgjaaDoor
open Go.RowKit

theorem Big.shape {w : World} {v : Value} {n : Int} {L : Nat} (h : Big w v n L) : ∃ neg a l c, v = .agg #[.bool neg, .slice a l c] := by
  obtain ⟨neg, ao, b, cap, ds, h1, _⟩ := h
  exact ⟨neg, ao, ds.length, cap, h1⟩
theorem Sl.set2 {w : World} {ao : Option Addr} {b3 cap b : Nat} {ds : List Int} (h : Sl w ao b3 cap ds) {q : Bool} (hd : w.cell? ⟨b, 0, none⟩ = some (.bool q)) (x y : Value) :
    Sl ((w.setCell ⟨b, 0, none⟩ x).setCell ⟨b, 1, none⟩ y) ao b3 cap ds := by
  have hne : 0 < ds.length → b3 ≠ b := by
    intro h0 e
    have := h.cell 0 h0
    rw [e, hd] at this
    simp at this
  refine ⟨h.ptr, h.nil, h.capl, h.len, h.capb, fun i hi => ?_, fun h0 => ?_⟩
  · have hb := hne (by omega)
    have e : (((w.setCell ⟨b, 0, none⟩ x).setCell ⟨b, 1, none⟩ y).heap)[b3]? = w.heap[b3]? := by
      rw [Below.heap_setCell _ _ _ _ hb, Below.heap_setCell _ _ _ _ hb]
    rw [World.cell?_of_block (w := w) (a := ⟨b3, i, none⟩) e]
    exact h.cell i hi
  · rw [size_set, size_set]; exact h.blk h0
theorem Big.set2 {w : World} {v : Value} {n : Int} {L b : Nat} (h : Big w v n L) {q : Bool} (hd : w.cell? ⟨b, 0, none⟩ = some (.bool q)) (x y : Value) : Big ((w.setCell ⟨b, 0, none⟩ x).setCell ⟨b, 1, none⟩ y) v n L := by
  obtain ⟨neg, ao, b3, cap, ds, h1, h2, h3⟩ := h
  exact ⟨neg, ao, b3, cap, ds, h1, h2.set2 hd x y, h3⟩
theorem below_a1 (w : World) (o1 : Obj) : Below w.heap.size w (w.alloc o1) := (Below.refl _ _).alloc (Nat.le_refl _) _
theorem below_a2 (w : World) (o1 o2 : Obj) : Below w.heap.size w ((w.alloc o1).alloc o2) := (below_a1 w o1).alloc (by simp) _
theorem below_a3 (w : World) (o1 o2 o3 : Obj) : Below w.heap.size w (((w.alloc o1).alloc o2).alloc o3) := (below_a2 w o1 o2).alloc (by simp; omega) _
theorem set2_below {w W : World} {B b : Nat} (h : Below B W w) (hB : B ≤ b) (x y : Value) : Below B W ((w.setCell ⟨b, 0, none⟩ x).setCell ⟨b, 1, none⟩ y) := (h.setCell hB x).setCell hB y

set_option maxRecDepth 100000 in
set_option maxHeartbeats 600000 in
theorem bigAdd_same (neg : Bool) (ao bo : Option Addr) (b b' cap cap' : Nat) (xs ys : List Int) (w : World) (ha : Sl w ao b cap xs) (hb : Sl w bo b' cap' ys) (da : DigOk xs) (db : DigOk ys)
    (hl1 : xs.length < 268435456) (hl2 : ys.length < 268435456) :
    Calls Tryd.prog 23 #[.agg #[.bool neg, .slice ao xs.length cap], .agg #[.bool neg, .slice bo ys.length cap']] w
      (GivesBig w (bif neg then -(dval xs + dval ys) else dval xs + dval ys) (max xs.length ys.length + 1)) := by
  have HA := Lib.hid ha
  have HB := Lib.hid hb
  have D := Lib.hid (And.intro da db)
  have HL := Lib.hid (And.intro hl1 hl2)
  clear ha hb da db hl1 hl2
  go_enter Tryd.func23, Tryd.ntmps23
  go_wp2_with fail
  refine name_world ?_
  intro W hW
  have k0 : Blk W w.heap.size #[.bool neg, .slice ao xs.length cap] 34 := by rw [hW]; exact ((Blk.new _ _ _).alloc _).alloc _
  have k1 : Blk W (w.heap.size + 1) #[.bool neg, .slice bo ys.length cap'] 34 := by rw [hW]; exact (Blk.new1 _ _ _ _).alloc _
  have k2 : Blk W (w.heap.size + 1 + 1) #[.bool false, .slice none 0 0] 34 := by rw [hW]; exact Blk.new2 _ _ _ _ _
  have hb0 : Below w.heap.size w W := by rw [hW]; exact below_a3 _ _ _ _
  clear hW
  have c0 := k0.cell 0
  have c1 := k0.cell 1
  have d0 := k1.cell 0
  have d1 := k1.cell 1
  simp only [List.getElem?_toArray, List.getElem?_cons_zero, List.getElem?_cons_succ] at c0 c1 d0 d1
  have l0 := k0.lt
  have l1 := k1.lt
  have K2 := Lib.hid k2
  clear k0 k1 k2
  refine wp_region_up W.heap.size 7 [(true, 0), (true, 1), (true, 2), (true, 3), (true, 4), (true, 5), (false, 6)] (by kernel_rfl) (by kernel_rfl) (fun _ _ d _ _ h => by cases d <;> exact h) ?_
  have hb : Below W.heap.size W W.drew := (Below.refl _ _).drew
  iterate 6
    refine wpS_takeL rfl rfl ?_
    go_big_quiet_step (rfl)
    refine wpQuiet_nil ?_
  refine wpS_doL rfl ?_
  intro K hK
  go_wp2_with ((go_at_call 46; refine (more_any ao bo b b' cap cap' xs ys _ (HA.out.of (hb0.trans (hb.mono hb0.size))) (HB.out.of (hb0.trans (hb.mono hb0.size))) (by have := HL.out; omega) (by have := HL.out; omega) D.out.1 D.out.2).mono ?_; rintro e w2 ⟨ao2, b2, cap2, ds2, rfl, hsl2, hdg2, hv2, hl2, hn⟩; have SL := Lib.hid hsl2; have DG := Lib.hid hdg2; have HV := Lib.hid hv2; have HL2 := Lib.hid hl2; clear hsl2 hdg2 hv2 hl2))
  replace hb := hb.trans (hn.mono hb.size)
  refine hK.out _ _ (up_iff.2 hb) ?_
  clear hK K
  clear hn
  refine wpS_nil ?_
  simp only [List.drop_succ_cons, List.drop_zero]
  have hb1 : Below w.heap.size w w2 := hb0.trans (hb.mono hb0.size)
  have k2 : Blk w2 (w.heap.size + 1 + 1) #[.bool false, .slice none 0 0] 34 := K2.out.of hb
  clear c0 c1 d0 d1 l0 l1 K2 hb hb0
  go_wp2_with fail
  refine (trim_any neg ao2 b2 cap2 ds2 _ SL.out DG.out (max xs.length ys.length + 1) (by rw [HL2.out]; exact Nat.le_refl _)).mono ?_
  rintro e w3 ⟨v3, rfl, hbig, hn⟩
  rw [HV.out] at hbig
  have HBG := Lib.hid hbig
  have hvv := hbig.shape
  clear hbig
  obtain ⟨n3, a3, q3, c3, rfl⟩ := hvv
  replace k2 : Blk w3 _ _ _ := k2.of hn
  have d0 := k2.cell 0
  have d1 := k2.cell 1
  have f0 := k2.free 0
  have f1 := k2.free 1
  simp only [List.getElem?_toArray, List.getElem?_cons_zero, List.getElem?_cons_succ] at d0 d1
  have hb2 := hb1.trans (hn.mono hb1.size)
  clear hn k2 hb1
  go_wp2
  simp [bodyPost, results, Tryd.results23, go_sem, d0, d1]
  refine ⟨_, rfl, ?_, set2_below hb2 ?_ _ _⟩
  · have := HBG.out.set2 d0 (.bool n3) (.slice a3 q3 c3)
    exact this
  · omega
set_option maxRecDepth 100000 in
set_option maxHeartbeats 600000 in
theorem bigAdd_ge (neg : Bool) (ao bo : Option Addr) (b b' cap cap' : Nat) (xs ys : List Int) (w : World) (ha : Sl w ao b cap xs) (hb : Sl w bo b' cap' ys) (da : DigOk xs) (db : DigOk ys) (na : Norm xs) (nb : Norm ys) (hcmp : dval ys ≤ dval xs)
    (hl1 : xs.length < 268435456) (hl2 : ys.length < 268435456) :
    Calls Tryd.prog 23 #[.agg #[.bool neg, .slice ao xs.length cap], .agg #[.bool (!neg), .slice bo ys.length cap']] w
      (GivesBig w (bif neg then -(dval xs - dval ys) else dval xs - dval ys) xs.length) := by
  have HC := Lib.hid hcmp
  have NN := Lib.hid (And.intro na nb)
  have HA := Lib.hid ha
  have HB := Lib.hid hb
  have D := Lib.hid (And.intro da db)
  have HL := Lib.hid (And.intro hl1 hl2)
  have hle : ys.length ≤ xs.length := by
    rcases Nat.lt_or_ge xs.length ys.length with h | h
    · have := len_lt da db nb h; omega
    · exact h
  have HLE := Lib.hid hle
  clear hle
  clear ha hb da db hl1 hl2 hcmp na nb
  go_enter Tryd.func23, Tryd.ntmps23
  cases neg
  · go_wp2_with fail
    refine calls_w ?_
    intro W hW
    have k0 : Blk W w.heap.size #[.bool false, .slice ao xs.length cap] 34 := by rw [hW]; exact ((Blk.new _ _ _).alloc _).alloc _
    have k1 : Blk W (w.heap.size + 1) #[.bool true, .slice bo ys.length cap'] 34 := by rw [hW]; exact (Blk.new1 _ _ _ _).alloc _
    have k2 : Blk W (w.heap.size + 1 + 1) #[.bool false, .slice none 0 0] 34 := by rw [hW]; exact Blk.new2 _ _ _ _ _
    have hb0 : Below w.heap.size w W := by rw [hW]; exact below_a3 _ _ _ _
    clear hW
    refine (sizes_any ao bo b b' cap cap' xs ys _ (HA.out.of hb0) (HB.out.of hb0) D.out.1 D.out.2 NN.out.1 NN.out.2).mono ?_
    rintro e w1 ⟨rfl, hn⟩
    replace k0 : Blk w1 _ _ _ := k0.of hn
    replace k1 : Blk w1 _ _ _ := k1.of hn
    replace k2 : Blk w1 _ _ _ := k2.of hn
    replace hb0 := hb0.trans (hn.mono hb0.size)
    clear hn
    have c0 := k0.cell 0
    have c1 := k0.cell 1
    have d0 := k1.cell 0
    have d1 := k1.cell 1
    simp only [List.getElem?_toArray, List.getElem?_cons_zero, List.getElem?_cons_succ] at c0 c1 d0 d1
    have l0 := k0.lt
    have l1 := k1.lt
    have K2 := Lib.hid k2
    clear k0 k1 k2
    have hsg : decide (0 ≤ cmpI (dval xs) (dval ys)) = true := by
      have := HC.out
      rcases Int.lt_or_eq_of_le this with h | h
      · rw [cmpI_gt h]; rfl
      · rw [h, cmpI_eq]; rfl
    go_wp2_with fail
    refine name_world ?_
    intro W hW
    subst hW
    refine wp_region_up W.heap.size 7 [(true, 0), (true, 1), (true, 2), (true, 3), (true, 4), (true, 5), (false, 6)] (by kernel_rfl) (by kernel_rfl) (fun _ _ d _ _ h => by cases d <;> exact h) ?_
    have hb : Below W.heap.size W W.drew := (Below.refl _ _).drew
    iterate 6
      refine wpS_takeL rfl rfl ?_
      go_big_quiet_step (rfl)
      refine wpQuiet_nil ?_
    refine wpS_doL rfl ?_
    intro K hK
    go_wp2_with ((go_at_call 47; refine (less_any ao bo b b' cap cap' xs ys _ (HA.out.of (hb0.trans (hb.mono hb0.size))) (HB.out.of (hb0.trans (hb.mono hb0.size))) (by have := HL.out; omega) D.out.1 D.out.2 HLE.out HC.out).mono ?_; rintro e w2 ⟨ao2, b2, cap2, ds2, rfl, hsl2, hdg2, hv2, hl2, hn⟩; have SL := Lib.hid hsl2; have DG := Lib.hid hdg2; have HV := Lib.hid hv2; have HL2 := Lib.hid hl2; clear hsl2 hdg2 hv2 hl2))
    replace hb := hb.trans (hn.mono hb.size)
    refine hK.out _ _ (up_iff.2 hb) ?_
    clear hK K
    clear hn
    refine wpS_nil ?_
    simp only [List.drop_succ_cons, List.drop_zero]
    have hb1 : Below w.heap.size w w2 := hb0.trans (hb.mono hb0.size)
    have k2 : Blk w2 (w.heap.size + 1 + 1) #[.bool false, .slice none 0 0] 34 := K2.out.of hb
    clear c0 c1 d0 d1 l0 l1 K2 hb hb0
    go_wp2_with fail
    refine (trim_any _ ao2 b2 cap2 ds2 _ SL.out DG.out xs.length (by rw [HL2.out]; exact Nat.le_refl _)).mono ?_
    rintro e w3 ⟨v3, rfl, hbig, hn⟩
    rw [HV.out] at hbig
    have HBG := Lib.hid hbig
    have hvv := hbig.shape
    clear hbig
    obtain ⟨n3, a3, q3, c3, rfl⟩ := hvv
    replace k2 : Blk w3 _ _ _ := k2.of hn
    have d0 := k2.cell 0
    have d1 := k2.cell 1
    have f0 := k2.free 0
    have f1 := k2.free 1
    simp only [List.getElem?_toArray, List.getElem?_cons_zero, List.getElem?_cons_succ] at d0 d1
    have hb2 := hb1.trans (hn.mono hb1.size)
    clear hn k2 hb1
    go_wp2
    simp [bodyPost, results, Tryd.results23, go_sem, d0, d1]
    refine ⟨_, rfl, ?_, set2_below hb2 ?_ _ _⟩
    · have := HBG.out.set2 d0 (.bool n3) (.slice a3 q3 c3)
      exact this
    · omega
  · go_wp2_with fail
    refine calls_w ?_
    intro W hW
    have k0 : Blk W w.heap.size #[.bool true, .slice ao xs.length cap] 34 := by rw [hW]; exact ((Blk.new _ _ _).alloc _).alloc _
    have k1 : Blk W (w.heap.size + 1) #[.bool false, .slice bo ys.length cap'] 34 := by rw [hW]; exact (Blk.new1 _ _ _ _).alloc _
    have k2 : Blk W (w.heap.size + 1 + 1) #[.bool false, .slice none 0 0] 34 := by rw [hW]; exact Blk.new2 _ _ _ _ _
    have hb0 : Below w.heap.size w W := by rw [hW]; exact below_a3 _ _ _ _
    clear hW
    refine (sizes_any ao bo b b' cap cap' xs ys _ (HA.out.of hb0) (HB.out.of hb0) D.out.1 D.out.2 NN.out.1 NN.out.2).mono ?_
    rintro e w1 ⟨rfl, hn⟩
    replace k0 : Blk w1 _ _ _ := k0.of hn
    replace k1 : Blk w1 _ _ _ := k1.of hn
    replace k2 : Blk w1 _ _ _ := k2.of hn
    replace hb0 := hb0.trans (hn.mono hb0.size)
    clear hn
    have c0 := k0.cell 0
    have c1 := k0.cell 1
    have d0 := k1.cell 0
    have d1 := k1.cell 1
    simp only [List.getElem?_toArray, List.getElem?_cons_zero, List.getElem?_cons_succ] at c0 c1 d0 d1
    have l0 := k0.lt
    have l1 := k1.lt
    have K2 := Lib.hid k2
    clear k0 k1 k2
    have hsg : decide (0 ≤ cmpI (dval xs) (dval ys)) = true := by
      have := HC.out
      rcases Int.lt_or_eq_of_le this with h | h
      · rw [cmpI_gt h]; rfl
      · rw [h, cmpI_eq]; rfl
    go_wp2_with fail
    refine name_world ?_
    intro W hW
    subst hW
    refine wp_region_up W.heap.size 7 [(true, 0), (true, 1), (true, 2), (true, 3), (true, 4), (true, 5), (false, 6)] (by kernel_rfl) (by kernel_rfl) (fun _ _ d _ _ h => by cases d <;> exact h) ?_
    have hb : Below W.heap.size W W.drew := (Below.refl _ _).drew
    iterate 6
      refine wpS_takeL rfl rfl ?_
      go_big_quiet_step (rfl)
      refine wpQuiet_nil ?_
    refine wpS_doL rfl ?_
    intro K hK
    go_wp2_with ((go_at_call 47; refine (less_any ao bo b b' cap cap' xs ys _ (HA.out.of (hb0.trans (hb.mono hb0.size))) (HB.out.of (hb0.trans (hb.mono hb0.size))) (by have := HL.out; omega) D.out.1 D.out.2 HLE.out HC.out).mono ?_; rintro e w2 ⟨ao2, b2, cap2, ds2, rfl, hsl2, hdg2, hv2, hl2, hn⟩; have SL := Lib.hid hsl2; have DG := Lib.hid hdg2; have HV := Lib.hid hv2; have HL2 := Lib.hid hl2; clear hsl2 hdg2 hv2 hl2))
    replace hb := hb.trans (hn.mono hb.size)
    refine hK.out _ _ (up_iff.2 hb) ?_
    clear hK K
    clear hn
    refine wpS_nil ?_
    simp only [List.drop_succ_cons, List.drop_zero]
    have hb1 : Below w.heap.size w w2 := hb0.trans (hb.mono hb0.size)
    have k2 : Blk w2 (w.heap.size + 1 + 1) #[.bool false, .slice none 0 0] 34 := K2.out.of hb
    clear c0 c1 d0 d1 l0 l1 K2 hb hb0
    go_wp2_with fail
    refine (trim_any _ ao2 b2 cap2 ds2 _ SL.out DG.out xs.length (by rw [HL2.out]; exact Nat.le_refl _)).mono ?_
    rintro e w3 ⟨v3, rfl, hbig, hn⟩
    rw [HV.out] at hbig
    have HBG := Lib.hid hbig
    have hvv := hbig.shape
    clear hbig
    obtain ⟨n3, a3, q3, c3, rfl⟩ := hvv
    replace k2 : Blk w3 _ _ _ := k2.of hn
    have d0 := k2.cell 0
    have d1 := k2.cell 1
    have f0 := k2.free 0
    have f1 := k2.free 1
    simp only [List.getElem?_toArray, List.getElem?_cons_zero, List.getElem?_cons_succ] at d0 d1
    have hb2 := hb1.trans (hn.mono hb1.size)
    clear hn k2 hb1
    go_wp2
    simp [bodyPost, results, Tryd.results23, go_sem, d0, d1]
    refine ⟨_, rfl, ?_, set2_below hb2 ?_ _ _⟩
    · have := HBG.out.set2 d0 (.bool n3) (.slice a3 q3 c3)
      exact this
    · omega
set_option maxRecDepth 100000 in
set_option maxHeartbeats 600000 in
theorem bigAdd_lt (neg : Bool) (ao bo : Option Addr) (b b' cap cap' : Nat) (xs ys : List Int) (w : World) (ha : Sl w ao b cap xs) (hb : Sl w bo b' cap' ys) (da : DigOk xs) (db : DigOk ys) (na : Norm xs) (nb : Norm ys) (hcmp : dval xs < dval ys)
    (hl1 : xs.length < 268435456) (hl2 : ys.length < 268435456) :
    Calls Tryd.prog 23 #[.agg #[.bool neg, .slice ao xs.length cap], .agg #[.bool (!neg), .slice bo ys.length cap']] w
      (GivesBig w (bif !neg then -(dval ys - dval xs) else dval ys - dval xs) ys.length) := by
  have HC := Lib.hid hcmp
  have NN := Lib.hid (And.intro na nb)
  have HA := Lib.hid ha
  have HB := Lib.hid hb
  have D := Lib.hid (And.intro da db)
  have HL := Lib.hid (And.intro hl1 hl2)
  have hle : xs.length ≤ ys.length := by
    rcases Nat.lt_or_ge ys.length xs.length with h | h
    · have := len_lt db da na h; omega
    · exact h
  have HLE := Lib.hid hle
  clear hle
  clear ha hb da db hl1 hl2 hcmp na nb
  go_enter Tryd.func23, Tryd.ntmps23
  cases neg
  · go_wp2_with fail
    refine calls_w ?_
    intro W hW
    have k0 : Blk W w.heap.size #[.bool false, .slice ao xs.length cap] 34 := by rw [hW]; exact ((Blk.new _ _ _).alloc _).alloc _
    have k1 : Blk W (w.heap.size + 1) #[.bool true, .slice bo ys.length cap'] 34 := by rw [hW]; exact (Blk.new1 _ _ _ _).alloc _
    have k2 : Blk W (w.heap.size + 1 + 1) #[.bool false, .slice none 0 0] 34 := by rw [hW]; exact Blk.new2 _ _ _ _ _
    have hb0 : Below w.heap.size w W := by rw [hW]; exact below_a3 _ _ _ _
    clear hW
    refine (sizes_any ao bo b b' cap cap' xs ys _ (HA.out.of hb0) (HB.out.of hb0) D.out.1 D.out.2 NN.out.1 NN.out.2).mono ?_
    rintro e w1 ⟨rfl, hn⟩
    replace k0 : Blk w1 _ _ _ := k0.of hn
    replace k1 : Blk w1 _ _ _ := k1.of hn
    replace k2 : Blk w1 _ _ _ := k2.of hn
    replace hb0 := hb0.trans (hn.mono hb0.size)
    clear hn
    have c0 := k0.cell 0
    have c1 := k0.cell 1
    have d0 := k1.cell 0
    have d1 := k1.cell 1
    simp only [List.getElem?_toArray, List.getElem?_cons_zero, List.getElem?_cons_succ] at c0 c1 d0 d1
    have l0 := k0.lt
    have l1 := k1.lt
    have K2 := Lib.hid k2
    clear k0 k1 k2
    have hsg : decide (0 ≤ cmpI (dval xs) (dval ys)) = false := by
      have := HC.out
      rw [cmpI_lt this]; rfl
    go_wp2_with fail
    refine name_world ?_
    intro W hW
    subst hW
    refine wp_region_up W.heap.size 7 [(true, 0), (true, 1), (true, 2), (true, 3), (true, 4), (true, 5), (false, 6)] (by kernel_rfl) (by kernel_rfl) (fun _ _ d _ _ h => by cases d <;> exact h) ?_
    have hb : Below W.heap.size W W.drew := (Below.refl _ _).drew
    iterate 6
      refine wpS_takeL rfl rfl ?_
      go_big_quiet_step (rfl)
      refine wpQuiet_nil ?_
    refine wpS_doL rfl ?_
    intro K hK
    go_wp2_with ((go_at_call 47; refine (less_any bo ao b' b cap' cap ys xs _ (HB.out.of (hb0.trans (hb.mono hb0.size))) (HA.out.of (hb0.trans (hb.mono hb0.size))) (by have := HL.out; omega) D.out.2 D.out.1 HLE.out (Int.le_of_lt HC.out)).mono ?_; rintro e w2 ⟨ao2, b2, cap2, ds2, rfl, hsl2, hdg2, hv2, hl2, hn⟩; have SL := Lib.hid hsl2; have DG := Lib.hid hdg2; have HV := Lib.hid hv2; have HL2 := Lib.hid hl2; clear hsl2 hdg2 hv2 hl2))
    replace hb := hb.trans (hn.mono hb.size)
    refine hK.out _ _ (up_iff.2 hb) ?_
    clear hK K
    clear hn
    refine wpS_nil ?_
    simp only [List.drop_succ_cons, List.drop_zero]
    have hb1 : Below w.heap.size w w2 := hb0.trans (hb.mono hb0.size)
    have k2 : Blk w2 (w.heap.size + 1 + 1) #[.bool false, .slice none 0 0] 34 := K2.out.of hb
    clear c0 c1 d0 d1 l0 l1 K2 hb hb0
    go_wp2_with fail
    refine (trim_any _ ao2 b2 cap2 ds2 _ SL.out DG.out ys.length (by rw [HL2.out]; exact Nat.le_refl _)).mono ?_
    rintro e w3 ⟨v3, rfl, hbig, hn⟩
    rw [HV.out] at hbig
    have HBG := Lib.hid hbig
    have hvv := hbig.shape
    clear hbig
    obtain ⟨n3, a3, q3, c3, rfl⟩ := hvv
    replace k2 : Blk w3 _ _ _ := k2.of hn
    have d0 := k2.cell 0
    have d1 := k2.cell 1
    have f0 := k2.free 0
    have f1 := k2.free 1
    simp only [List.getElem?_toArray, List.getElem?_cons_zero, List.getElem?_cons_succ] at d0 d1
    have hb2 := hb1.trans (hn.mono hb1.size)
    clear hn k2 hb1
    go_wp2
    simp [bodyPost, results, Tryd.results23, go_sem, d0, d1]
    refine ⟨_, rfl, ?_, set2_below hb2 ?_ _ _⟩
    · have := HBG.out.set2 d0 (.bool n3) (.slice a3 q3 c3)
      exact this
    · omega
  · go_wp2_with fail
    refine calls_w ?_
    intro W hW
    have k0 : Blk W w.heap.size #[.bool true, .slice ao xs.length cap] 34 := by rw [hW]; exact ((Blk.new _ _ _).alloc _).alloc _
    have k1 : Blk W (w.heap.size + 1) #[.bool false, .slice bo ys.length cap'] 34 := by rw [hW]; exact (Blk.new1 _ _ _ _).alloc _
    have k2 : Blk W (w.heap.size + 1 + 1) #[.bool false, .slice none 0 0] 34 := by rw [hW]; exact Blk.new2 _ _ _ _ _
    have hb0 : Below w.heap.size w W := by rw [hW]; exact below_a3 _ _ _ _
    clear hW
    refine (sizes_any ao bo b b' cap cap' xs ys _ (HA.out.of hb0) (HB.out.of hb0) D.out.1 D.out.2 NN.out.1 NN.out.2).mono ?_
    rintro e w1 ⟨rfl, hn⟩
    replace k0 : Blk w1 _ _ _ := k0.of hn
    replace k1 : Blk w1 _ _ _ := k1.of hn
    replace k2 : Blk w1 _ _ _ := k2.of hn
    replace hb0 := hb0.trans (hn.mono hb0.size)
    clear hn
    have c0 := k0.cell 0
    have c1 := k0.cell 1
    have d0 := k1.cell 0
    have d1 := k1.cell 1
    simp only [List.getElem?_toArray, List.getElem?_cons_zero, List.getElem?_cons_succ] at c0 c1 d0 d1
    have l0 := k0.lt
    have l1 := k1.lt
    have K2 := Lib.hid k2
    clear k0 k1 k2
    have hsg : decide (0 ≤ cmpI (dval xs) (dval ys)) = false := by
      have := HC.out
      rw [cmpI_lt this]; rfl
    go_wp2_with fail
    refine name_world ?_
    intro W hW
    subst hW
    refine wp_region_up W.heap.size 7 [(true, 0), (true, 1), (true, 2), (true, 3), (true, 4), (true, 5), (false, 6)] (by kernel_rfl) (by kernel_rfl) (fun _ _ d _ _ h => by cases d <;> exact h) ?_
    have hb : Below W.heap.size W W.drew := (Below.refl _ _).drew
    iterate 6
      refine wpS_takeL rfl rfl ?_
      go_big_quiet_step (rfl)
      refine wpQuiet_nil ?_
    refine wpS_doL rfl ?_
    intro K hK
    go_wp2_with ((go_at_call 47; refine (less_any bo ao b' b cap' cap ys xs _ (HB.out.of (hb0.trans (hb.mono hb0.size))) (HA.out.of (hb0.trans (hb.mono hb0.size))) (by have := HL.out; omega) D.out.2 D.out.1 HLE.out (Int.le_of_lt HC.out)).mono ?_; rintro e w2 ⟨ao2, b2, cap2, ds2, rfl, hsl2, hdg2, hv2, hl2, hn⟩; have SL := Lib.hid hsl2; have DG := Lib.hid hdg2; have HV := Lib.hid hv2; have HL2 := Lib.hid hl2; clear hsl2 hdg2 hv2 hl2))
    replace hb := hb.trans (hn.mono hb.size)
    refine hK.out _ _ (up_iff.2 hb) ?_
    clear hK K
    clear hn
    refine wpS_nil ?_
    simp only [List.drop_succ_cons, List.drop_zero]
    have hb1 : Below w.heap.size w w2 := hb0.trans (hb.mono hb0.size)
    have k2 : Blk w2 (w.heap.size + 1 + 1) #[.bool false, .slice none 0 0] 34 := K2.out.of hb
    clear c0 c1 d0 d1 l0 l1 K2 hb hb0
    go_wp2_with fail
    refine (trim_any _ ao2 b2 cap2 ds2 _ SL.out DG.out ys.length (by rw [HL2.out]; exact Nat.le_refl _)).mono ?_
    rintro e w3 ⟨v3, rfl, hbig, hn⟩
    rw [HV.out] at hbig
    have HBG := Lib.hid hbig
    have hvv := hbig.shape
    clear hbig
    obtain ⟨n3, a3, q3, c3, rfl⟩ := hvv
    replace k2 : Blk w3 _ _ _ := k2.of hn
    have d0 := k2.cell 0
    have d1 := k2.cell 1
    have f0 := k2.free 0
    have f1 := k2.free 1
    simp only [List.getElem?_toArray, List.getElem?_cons_zero, List.getElem?_cons_succ] at d0 d1
    have hb2 := hb1.trans (hn.mono hb1.size)
    clear hn k2 hb1
    go_wp2
    simp [bodyPost, results, Tryd.results23, go_sem, d0, d1]
    refine ⟨_, rfl, ?_, set2_below hb2 ?_ _ _⟩
    · have := HBG.out.set2 d0 (.bool n3) (.slice a3 q3 c3)
      exact this
    · omega
end Go.Proofs.YtcfiemeknocgjaaDoor
