/- Bs5: several of my texts in one: Big5, Big6, Big7, Dig2, Rat, Big8, Big9, Big10. Conditions: as each of them says. -/
import Derived.Test.YtlcbomjdbdgbmaaBs4
import Derived.Test.YtlcbomjdbdgbmaaBs3
import Derived.Test.YtlcbomjdbdgbmaaBs2
import Derived.IntWalk
/- The walks of gromaref01's Add, Sub. Conditions: fewer than 2^28 digits. -/
namespace Go.Proofs.Ytlcbomjdbdgbmaa
open Go.RowKit

theorem Big.shape {w : World} {v : Value} {n : Int} {L : Nat} (h : Big w v n L) : ∃ neg a l c, v = .agg #[.bool neg, .slice a l c] := by
  obtain ⟨neg, ao, b, cap, ds, h1, _⟩ := h
  exact ⟨neg, ao, ds.length, cap, h1⟩
theorem Sl.set2 {w : World} {ao : Option Addr} {b3 cap b : Nat} {ds : List Int} (h : Sl w ao b3 cap ds) {q : Bool} (hd : w.cell? ⟨b, 0, none⟩ = some (.bool q)) (x y : Value) :
    Sl ((w.setCell ⟨b, 0, none⟩ x).setCell ⟨b, 1, none⟩ y) ao b3 cap ds := by
  have hne : 0 < ds.length → b3 ≠ b := by
    intro h0 e
    have := h.cell 0 h0
    rw [e, hd] at this
    simp at this
  refine ⟨h.ptr, h.nil, h.capl, h.len, h.capb, fun i hi => ?_, fun h0 => ?_⟩
  · have hb := hne (by omega)
    have e : (((w.setCell ⟨b, 0, none⟩ x).setCell ⟨b, 1, none⟩ y).heap)[b3]? = w.heap[b3]? := by
      rw [Below.heap_setCell _ _ _ _ hb, Below.heap_setCell _ _ _ _ hb]
    rw [World.cell?_of_block (w := w) (a := ⟨b3, i, none⟩) e]
    exact h.cell i hi
  · rw [size_set, size_set]; exact h.blk h0
theorem Big.set2 {w : World} {v : Value} {n : Int} {L b : Nat} (h : Big w v n L) {q : Bool} (hd : w.cell? ⟨b, 0, none⟩ = some (.bool q)) (x y : Value) : Big ((w.setCell ⟨b, 0, none⟩ x).setCell ⟨b, 1, none⟩ y) v n L := by
  obtain ⟨neg, ao, b3, cap, ds, h1, h2, h3⟩ := h
  exact ⟨neg, ao, b3, cap, ds, h1, h2.set2 hd x y, h3⟩
theorem below_a1 (w : World) (o1 : Obj) : Below w.heap.size w (w.alloc o1) := (Below.refl _ _).alloc (Nat.le_refl _) _
theorem below_a2 (w : World) (o1 o2 : Obj) : Below w.heap.size w ((w.alloc o1).alloc o2) := (below_a1 w o1).alloc (by simp) _
theorem below_a3 (w : World) (o1 o2 o3 : Obj) : Below w.heap.size w (((w.alloc o1).alloc o2).alloc o3) := (below_a2 w o1 o2).alloc (by simp; omega) _
theorem set2_below {w W : World} {B b : Nat} (h : Below B W w) (hB : B ≤ b) (x y : Value) : Below B W ((w.setCell ⟨b, 0, none⟩ x).setCell ⟨b, 1, none⟩ y) := (h.setCell hB x).setCell hB y

set_option maxRecDepth 100000 in
set_option maxHeartbeats 600000 in
theorem bigAdd_same (neg : Bool) (ao bo : Option Addr) (b b' cap cap' : Nat) (xs ys : List Int) (w : World) (ha : Sl w ao b cap xs) (hb : Sl w bo b' cap' ys) (da : DigOk xs) (db : DigOk ys)
    (hl1 : xs.length < 268435456) (hl2 : ys.length < 268435456) :
    Calls Try.prog 18 #[.agg #[.bool neg, .slice ao xs.length cap], .agg #[.bool neg, .slice bo ys.length cap']] w
      (GivesBig w (bif neg then -(dval xs + dval ys) else dval xs + dval ys) (max xs.length ys.length + 1)) := by
  have HA := Lib.hid ha
  have HB := Lib.hid hb
  have D := Lib.hid (And.intro da db)
  have HL := Lib.hid (And.intro hl1 hl2)
  clear ha hb da db hl1 hl2
  go_enter Try.func18, Try.ntmps18
  go_wp2_with fail
  refine name_world ?_
  intro W hW
  have k0 : Blk W w.heap.size #[.bool neg, .slice ao xs.length cap] 28 := by rw [hW]; exact ((Blk.new _ _ _).alloc _).alloc _
  have k1 : Blk W (w.heap.size + 1) #[.bool neg, .slice bo ys.length cap'] 28 := by rw [hW]; exact (Blk.new1 _ _ _ _).alloc _
  have k2 : Blk W (w.heap.size + 1 + 1) #[.bool false, .slice none 0 0] 28 := by rw [hW]; exact Blk.new2 _ _ _ _ _
  have hb0 : Below w.heap.size w W := by rw [hW]; exact below_a3 _ _ _ _
  clear hW
  have c0 := k0.cell 0
  have c1 := k0.cell 1
  have d0 := k1.cell 0
  have d1 := k1.cell 1
  simp only [List.getElem?_toArray, List.getElem?_cons_zero, List.getElem?_cons_succ] at c0 c1 d0 d1
  have l0 := k0.lt
  have l1 := k1.lt
  have K2 := Lib.hid k2
  clear k0 k1 k2
  refine wp_region_up W.heap.size 7 [(true, 0), (true, 1), (true, 2), (true, 3), (true, 4), (true, 5), (false, 6)] (by kernel_rfl) (by kernel_rfl) (fun _ _ d _ _ h => by cases d <;> exact h) ?_
  have hb : Below W.heap.size W W.drew := (Below.refl _ _).drew
  iterate 6
    refine wpS_takeL rfl rfl ?_
    go_big_quiet_step (rfl)
    refine wpQuiet_nil ?_
  refine wpS_doL rfl ?_
  intro K hK
  go_wp2_with ((go_at_call 81; refine (more_any ao bo b b' cap cap' xs ys _ (HA.out.of (hb0.trans (hb.mono hb0.size))) (HB.out.of (hb0.trans (hb.mono hb0.size))) (by have := HL.out; omega) (by have := HL.out; omega) D.out.1 D.out.2).mono ?_; rintro e w2 ⟨ao2, b2, cap2, ds2, rfl, hsl2, hdg2, hv2, hl2, hn⟩; have SL := Lib.hid hsl2; have DG := Lib.hid hdg2; have HV := Lib.hid hv2; have HL2 := Lib.hid hl2; clear hsl2 hdg2 hv2 hl2))
  replace hb := hb.trans (hn.mono hb.size)
  refine hK.out _ _ (up_iff.2 hb) ?_
  clear hK K
  clear hn
  refine wpS_nil ?_
  simp only [List.drop_succ_cons, List.drop_zero]
  have hb1 : Below w.heap.size w w2 := hb0.trans (hb.mono hb0.size)
  have k2 : Blk w2 (w.heap.size + 1 + 1) #[.bool false, .slice none 0 0] 28 := K2.out.of hb
  clear c0 c1 d0 d1 l0 l1 K2 hb hb0
  go_wp2_with fail
  refine (trim_any neg ao2 b2 cap2 ds2 _ SL.out DG.out (max xs.length ys.length + 1) (by rw [HL2.out]; exact Nat.le_refl _)).mono ?_
  rintro e w3 ⟨v3, rfl, hbig, hn⟩
  rw [HV.out] at hbig
  have HBG := Lib.hid hbig
  have hvv := hbig.shape
  clear hbig
  obtain ⟨n3, a3, q3, c3, rfl⟩ := hvv
  replace k2 : Blk w3 _ _ _ := k2.of hn
  have d0 := k2.cell 0
  have d1 := k2.cell 1
  have f0 := k2.free 0
  have f1 := k2.free 1
  simp only [List.getElem?_toArray, List.getElem?_cons_zero, List.getElem?_cons_succ] at d0 d1
  have hb2 := hb1.trans (hn.mono hb1.size)
  clear hn k2 hb1
  go_wp2
  simp [bodyPost, results, Try.results18, go_sem, d0, d1]
  refine ⟨_, rfl, ?_, set2_below hb2 ?_ _ _⟩
  · have := HBG.out.set2 d0 (.bool n3) (.slice a3 q3 c3)
    exact this
  · omega
set_option maxRecDepth 100000 in
set_option maxHeartbeats 600000 in
theorem bigAdd_ge (neg : Bool) (ao bo : Option Addr) (b b' cap cap' : Nat) (xs ys : List Int) (w : World) (ha : Sl w ao b cap xs) (hb : Sl w bo b' cap' ys) (da : DigOk xs) (db : DigOk ys) (na : Norm xs) (nb : Norm ys) (hcmp : dval ys ≤ dval xs)
    (hl1 : xs.length < 268435456) (hl2 : ys.length < 268435456) :
    Calls Try.prog 18 #[.agg #[.bool neg, .slice ao xs.length cap], .agg #[.bool (!neg), .slice bo ys.length cap']] w
      (GivesBig w (bif neg then -(dval xs - dval ys) else dval xs - dval ys) xs.length) := by
  have HC := Lib.hid hcmp
  have NN := Lib.hid (And.intro na nb)
  have HA := Lib.hid ha
  have HB := Lib.hid hb
  have D := Lib.hid (And.intro da db)
  have HL := Lib.hid (And.intro hl1 hl2)
  have hle : ys.length ≤ xs.length := by
    rcases Nat.lt_or_ge xs.length ys.length with h | h
    · have := len_lt da db nb h; omega
    · exact h
  have HLE := Lib.hid hle
  clear hle
  clear ha hb da db hl1 hl2 hcmp na nb
  go_enter Try.func18, Try.ntmps18
  cases neg
  · go_wp2_with fail
    refine calls_w ?_
    intro W hW
    have k0 : Blk W w.heap.size #[.bool false, .slice ao xs.length cap] 28 := by rw [hW]; exact ((Blk.new _ _ _).alloc _).alloc _
    have k1 : Blk W (w.heap.size + 1) #[.bool true, .slice bo ys.length cap'] 28 := by rw [hW]; exact (Blk.new1 _ _ _ _).alloc _
    have k2 : Blk W (w.heap.size + 1 + 1) #[.bool false, .slice none 0 0] 28 := by rw [hW]; exact Blk.new2 _ _ _ _ _
    have hb0 : Below w.heap.size w W := by rw [hW]; exact below_a3 _ _ _ _
    clear hW
    refine (sizes_any ao bo b b' cap cap' xs ys _ (HA.out.of hb0) (HB.out.of hb0) D.out.1 D.out.2 NN.out.1 NN.out.2).mono ?_
    rintro e w1 ⟨rfl, hn⟩
    replace k0 : Blk w1 _ _ _ := k0.of hn
    replace k1 : Blk w1 _ _ _ := k1.of hn
    replace k2 : Blk w1 _ _ _ := k2.of hn
    replace hb0 := hb0.trans (hn.mono hb0.size)
    clear hn
    have c0 := k0.cell 0
    have c1 := k0.cell 1
    have d0 := k1.cell 0
    have d1 := k1.cell 1
    simp only [List.getElem?_toArray, List.getElem?_cons_zero, List.getElem?_cons_succ] at c0 c1 d0 d1
    have l0 := k0.lt
    have l1 := k1.lt
    have K2 := Lib.hid k2
    clear k0 k1 k2
    have hsg : decide (0 ≤ cmpI (dval xs) (dval ys)) = true := by
      have := HC.out
      rcases Int.lt_or_eq_of_le this with h | h
      · rw [cmpI_gt h]; rfl
      · rw [h, cmpI_eq]; rfl
    go_wp2_with fail
    refine name_world ?_
    intro W hW
    subst hW
    refine wp_region_up W.heap.size 7 [(true, 0), (true, 1), (true, 2), (true, 3), (true, 4), (true, 5), (false, 6)] (by kernel_rfl) (by kernel_rfl) (fun _ _ d _ _ h => by cases d <;> exact h) ?_
    have hb : Below W.heap.size W W.drew := (Below.refl _ _).drew
    iterate 6
      refine wpS_takeL rfl rfl ?_
      go_big_quiet_step (rfl)
      refine wpQuiet_nil ?_
    refine wpS_doL rfl ?_
    intro K hK
    go_wp2_with ((go_at_call 83; refine (less_any ao bo b b' cap cap' xs ys _ (HA.out.of (hb0.trans (hb.mono hb0.size))) (HB.out.of (hb0.trans (hb.mono hb0.size))) (by have := HL.out; omega) D.out.1 D.out.2 HLE.out HC.out).mono ?_; rintro e w2 ⟨ao2, b2, cap2, ds2, rfl, hsl2, hdg2, hv2, hl2, hn⟩; have SL := Lib.hid hsl2; have DG := Lib.hid hdg2; have HV := Lib.hid hv2; have HL2 := Lib.hid hl2; clear hsl2 hdg2 hv2 hl2))
    replace hb := hb.trans (hn.mono hb.size)
    refine hK.out _ _ (up_iff.2 hb) ?_
    clear hK K
    clear hn
    refine wpS_nil ?_
    simp only [List.drop_succ_cons, List.drop_zero]
    have hb1 : Below w.heap.size w w2 := hb0.trans (hb.mono hb0.size)
    have k2 : Blk w2 (w.heap.size + 1 + 1) #[.bool false, .slice none 0 0] 28 := K2.out.of hb
    clear c0 c1 d0 d1 l0 l1 K2 hb hb0
    go_wp2_with fail
    refine (trim_any _ ao2 b2 cap2 ds2 _ SL.out DG.out xs.length (by rw [HL2.out]; exact Nat.le_refl _)).mono ?_
    rintro e w3 ⟨v3, rfl, hbig, hn⟩
    rw [HV.out] at hbig
    have HBG := Lib.hid hbig
    have hvv := hbig.shape
    clear hbig
    obtain ⟨n3, a3, q3, c3, rfl⟩ := hvv
    replace k2 : Blk w3 _ _ _ := k2.of hn
    have d0 := k2.cell 0
    have d1 := k2.cell 1
    have f0 := k2.free 0
    have f1 := k2.free 1
    simp only [List.getElem?_toArray, List.getElem?_cons_zero, List.getElem?_cons_succ] at d0 d1
    have hb2 := hb1.trans (hn.mono hb1.size)
    clear hn k2 hb1
    go_wp2
    simp [bodyPost, results, Try.results18, go_sem, d0, d1]
    refine ⟨_, rfl, ?_, set2_below hb2 ?_ _ _⟩
    · have := HBG.out.set2 d0 (.bool n3) (.slice a3 q3 c3)
      exact this
    · omega
  · go_wp2_with fail
    refine calls_w ?_
    intro W hW
    have k0 : Blk W w.heap.size #[.bool true, .slice ao xs.length cap] 28 := by rw [hW]; exact ((Blk.new _ _ _).alloc _).alloc _
    have k1 : Blk W (w.heap.size + 1) #[.bool false, .slice bo ys.length cap'] 28 := by rw [hW]; exact (Blk.new1 _ _ _ _).alloc _
    have k2 : Blk W (w.heap.size + 1 + 1) #[.bool false, .slice none 0 0] 28 := by rw [hW]; exact Blk.new2 _ _ _ _ _
    have hb0 : Below w.heap.size w W := by rw [hW]; exact below_a3 _ _ _ _
    clear hW
    refine (sizes_any ao bo b b' cap cap' xs ys _ (HA.out.of hb0) (HB.out.of hb0) D.out.1 D.out.2 NN.out.1 NN.out.2).mono ?_
    rintro e w1 ⟨rfl, hn⟩
    replace k0 : Blk w1 _ _ _ := k0.of hn
    replace k1 : Blk w1 _ _ _ := k1.of hn
    replace k2 : Blk w1 _ _ _ := k2.of hn
    replace hb0 := hb0.trans (hn.mono hb0.size)
    clear hn
    have c0 := k0.cell 0
    have c1 := k0.cell 1
    have d0 := k1.cell 0
    have d1 := k1.cell 1
    simp only [List.getElem?_toArray, List.getElem?_cons_zero, List.getElem?_cons_succ] at c0 c1 d0 d1
    have l0 := k0.lt
    have l1 := k1.lt
    have K2 := Lib.hid k2
    clear k0 k1 k2
    have hsg : decide (0 ≤ cmpI (dval xs) (dval ys)) = true := by
      have := HC.out
      rcases Int.lt_or_eq_of_le this with h | h
      · rw [cmpI_gt h]; rfl
      · rw [h, cmpI_eq]; rfl
    go_wp2_with fail
    refine name_world ?_
    intro W hW
    subst hW
    refine wp_region_up W.heap.size 7 [(true, 0), (true, 1), (true, 2), (true, 3), (true, 4), (true, 5), (false, 6)] (by kernel_rfl) (by kernel_rfl) (fun _ _ d _ _ h => by cases d <;> exact h) ?_
    have hb : Below W.heap.size W W.drew := (Below.refl _ _).drew
    iterate 6
      refine wpS_takeL rfl rfl ?_
      go_big_quiet_step (rfl)
      refine wpQuiet_nil ?_
    refine wpS_doL rfl ?_
    intro K hK
    go_wp2_with ((go_at_call 83; refine (less_any ao bo b b' cap cap' xs ys _ (HA.out.of (hb0.trans (hb.mono hb0.size))) (HB.out.of (hb0.trans (hb.mono hb0.size))) (by have := HL.out; omega) D.out.1 D.out.2 HLE.out HC.out).mono ?_; rintro e w2 ⟨ao2, b2, cap2, ds2, rfl, hsl2, hdg2, hv2, hl2, hn⟩; have SL := Lib.hid hsl2; have DG := Lib.hid hdg2; have HV := Lib.hid hv2; have HL2 := Lib.hid hl2; clear hsl2 hdg2 hv2 hl2))
    replace hb := hb.trans (hn.mono hb.size)
    refine hK.out _ _ (up_iff.2 hb) ?_
    clear hK K
    clear hn
    refine wpS_nil ?_
    simp only [List.drop_succ_cons, List.drop_zero]
    have hb1 : Below w.heap.size w w2 := hb0.trans (hb.mono hb0.size)
    have k2 : Blk w2 (w.heap.size + 1 + 1) #[.bool false, .slice none 0 0] 28 := K2.out.of hb
    clear c0 c1 d0 d1 l0 l1 K2 hb hb0
    go_wp2_with fail
    refine (trim_any _ ao2 b2 cap2 ds2 _ SL.out DG.out xs.length (by rw [HL2.out]; exact Nat.le_refl _)).mono ?_
    rintro e w3 ⟨v3, rfl, hbig, hn⟩
    rw [HV.out] at hbig
    have HBG := Lib.hid hbig
    have hvv := hbig.shape
    clear hbig
    obtain ⟨n3, a3, q3, c3, rfl⟩ := hvv
    replace k2 : Blk w3 _ _ _ := k2.of hn
    have d0 := k2.cell 0
    have d1 := k2.cell 1
    have f0 := k2.free 0
    have f1 := k2.free 1
    simp only [List.getElem?_toArray, List.getElem?_cons_zero, List.getElem?_cons_succ] at d0 d1
    have hb2 := hb1.trans (hn.mono hb1.size)
    clear hn k2 hb1
    go_wp2
    simp [bodyPost, results, Try.results18, go_sem, d0, d1]
    refine ⟨_, rfl, ?_, set2_below hb2 ?_ _ _⟩
    · have := HBG.out.set2 d0 (.bool n3) (.slice a3 q3 c3)
      exact this
    · omega
set_option maxRecDepth 100000 in
set_option maxHeartbeats 600000 in
theorem bigAdd_lt (neg : Bool) (ao bo : Option Addr) (b b' cap cap' : Nat) (xs ys : List Int) (w : World) (ha : Sl w ao b cap xs) (hb : Sl w bo b' cap' ys) (da : DigOk xs) (db : DigOk ys) (na : Norm xs) (nb : Norm ys) (hcmp : dval xs < dval ys)
    (hl1 : xs.length < 268435456) (hl2 : ys.length < 268435456) :
    Calls Try.prog 18 #[.agg #[.bool neg, .slice ao xs.length cap], .agg #[.bool (!neg), .slice bo ys.length cap']] w
      (GivesBig w (bif !neg then -(dval ys - dval xs) else dval ys - dval xs) ys.length) := by
  have HC := Lib.hid hcmp
  have NN := Lib.hid (And.intro na nb)
  have HA := Lib.hid ha
  have HB := Lib.hid hb
  have D := Lib.hid (And.intro da db)
  have HL := Lib.hid (And.intro hl1 hl2)
  have hle : xs.length ≤ ys.length := by
    rcases Nat.lt_or_ge ys.length xs.length with h | h
    · have := len_lt db da na h; omega
    · exact h
  have HLE := Lib.hid hle
  clear hle
  clear ha hb da db hl1 hl2 hcmp na nb
  go_enter Try.func18, Try.ntmps18
  cases neg
  · go_wp2_with fail
    refine calls_w ?_
    intro W hW
    have k0 : Blk W w.heap.size #[.bool false, .slice ao xs.length cap] 28 := by rw [hW]; exact ((Blk.new _ _ _).alloc _).alloc _
    have k1 : Blk W (w.heap.size + 1) #[.bool true, .slice bo ys.length cap'] 28 := by rw [hW]; exact (Blk.new1 _ _ _ _).alloc _
    have k2 : Blk W (w.heap.size + 1 + 1) #[.bool false, .slice none 0 0] 28 := by rw [hW]; exact Blk.new2 _ _ _ _ _
    have hb0 : Below w.heap.size w W := by rw [hW]; exact below_a3 _ _ _ _
    clear hW
    refine (sizes_any ao bo b b' cap cap' xs ys _ (HA.out.of hb0) (HB.out.of hb0) D.out.1 D.out.2 NN.out.1 NN.out.2).mono ?_
    rintro e w1 ⟨rfl, hn⟩
    replace k0 : Blk w1 _ _ _ := k0.of hn
    replace k1 : Blk w1 _ _ _ := k1.of hn
    replace k2 : Blk w1 _ _ _ := k2.of hn
    replace hb0 := hb0.trans (hn.mono hb0.size)
    clear hn
    have c0 := k0.cell 0
    have c1 := k0.cell 1
    have d0 := k1.cell 0
    have d1 := k1.cell 1
    simp only [List.getElem?_toArray, List.getElem?_cons_zero, List.getElem?_cons_succ] at c0 c1 d0 d1
    have l0 := k0.lt
    have l1 := k1.lt
    have K2 := Lib.hid k2
    clear k0 k1 k2
    have hsg : decide (0 ≤ cmpI (dval xs) (dval ys)) = false := by
      have := HC.out
      rw [cmpI_lt this]; rfl
    go_wp2_with fail
    refine name_world ?_
    intro W hW
    subst hW
    refine wp_region_up W.heap.size 7 [(true, 0), (true, 1), (true, 2), (true, 3), (true, 4), (true, 5), (false, 6)] (by kernel_rfl) (by kernel_rfl) (fun _ _ d _ _ h => by cases d <;> exact h) ?_
    have hb : Below W.heap.size W W.drew := (Below.refl _ _).drew
    iterate 6
      refine wpS_takeL rfl rfl ?_
      go_big_quiet_step (rfl)
      refine wpQuiet_nil ?_
    refine wpS_doL rfl ?_
    intro K hK
    go_wp2_with ((go_at_call 83; refine (less_any bo ao b' b cap' cap ys xs _ (HB.out.of (hb0.trans (hb.mono hb0.size))) (HA.out.of (hb0.trans (hb.mono hb0.size))) (by have := HL.out; omega) D.out.2 D.out.1 HLE.out (Int.le_of_lt HC.out)).mono ?_; rintro e w2 ⟨ao2, b2, cap2, ds2, rfl, hsl2, hdg2, hv2, hl2, hn⟩; have SL := Lib.hid hsl2; have DG := Lib.hid hdg2; have HV := Lib.hid hv2; have HL2 := Lib.hid hl2; clear hsl2 hdg2 hv2 hl2))
    replace hb := hb.trans (hn.mono hb.size)
    refine hK.out _ _ (up_iff.2 hb) ?_
    clear hK K
    clear hn
    refine wpS_nil ?_
    simp only [List.drop_succ_cons, List.drop_zero]
    have hb1 : Below w.heap.size w w2 := hb0.trans (hb.mono hb0.size)
    have k2 : Blk w2 (w.heap.size + 1 + 1) #[.bool false, .slice none 0 0] 28 := K2.out.of hb
    clear c0 c1 d0 d1 l0 l1 K2 hb hb0
    go_wp2_with fail
    refine (trim_any _ ao2 b2 cap2 ds2 _ SL.out DG.out ys.length (by rw [HL2.out]; exact Nat.le_refl _)).mono ?_
    rintro e w3 ⟨v3, rfl, hbig, hn⟩
    rw [HV.out] at hbig
    have HBG := Lib.hid hbig
    have hvv := hbig.shape
    clear hbig
    obtain ⟨n3, a3, q3, c3, rfl⟩ := hvv
    replace k2 : Blk w3 _ _ _ := k2.of hn
    have d0 := k2.cell 0
    have d1 := k2.cell 1
    have f0 := k2.free 0
    have f1 := k2.free 1
    simp only [List.getElem?_toArray, List.getElem?_cons_zero, List.getElem?_cons_succ] at d0 d1
    have hb2 := hb1.trans (hn.mono hb1.size)
    clear hn k2 hb1
    go_wp2
    simp [bodyPost, results, Try.results18, go_sem, d0, d1]
    refine ⟨_, rfl, ?_, set2_below hb2 ?_ _ _⟩
    · have := HBG.out.set2 d0 (.bool n3) (.slice a3 q3 c3)
      exact this
    · omega
  · go_wp2_with fail
    refine calls_w ?_
    intro W hW
    have k0 : Blk W w.heap.size #[.bool true, .slice ao xs.length cap] 28 := by rw [hW]; exact ((Blk.new _ _ _).alloc _).alloc _
    have k1 : Blk W (w.heap.size + 1) #[.bool false, .slice bo ys.length cap'] 28 := by rw [hW]; exact (Blk.new1 _ _ _ _).alloc _
    have k2 : Blk W (w.heap.size + 1 + 1) #[.bool false, .slice none 0 0] 28 := by rw [hW]; exact Blk.new2 _ _ _ _ _
    have hb0 : Below w.heap.size w W := by rw [hW]; exact below_a3 _ _ _ _
    clear hW
    refine (sizes_any ao bo b b' cap cap' xs ys _ (HA.out.of hb0) (HB.out.of hb0) D.out.1 D.out.2 NN.out.1 NN.out.2).mono ?_
    rintro e w1 ⟨rfl, hn⟩
    replace k0 : Blk w1 _ _ _ := k0.of hn
    replace k1 : Blk w1 _ _ _ := k1.of hn
    replace k2 : Blk w1 _ _ _ := k2.of hn
    replace hb0 := hb0.trans (hn.mono hb0.size)
    clear hn
    have c0 := k0.cell 0
    have c1 := k0.cell 1
    have d0 := k1.cell 0
    have d1 := k1.cell 1
    simp only [List.getElem?_toArray, List.getElem?_cons_zero, List.getElem?_cons_succ] at c0 c1 d0 d1
    have l0 := k0.lt
    have l1 := k1.lt
    have K2 := Lib.hid k2
    clear k0 k1 k2
    have hsg : decide (0 ≤ cmpI (dval xs) (dval ys)) = false := by
      have := HC.out
      rw [cmpI_lt this]; rfl
    go_wp2_with fail
    refine name_world ?_
    intro W hW
    subst hW
    refine wp_region_up W.heap.size 7 [(true, 0), (true, 1), (true, 2), (true, 3), (true, 4), (true, 5), (false, 6)] (by kernel_rfl) (by kernel_rfl) (fun _ _ d _ _ h => by cases d <;> exact h) ?_
    have hb : Below W.heap.size W W.drew := (Below.refl _ _).drew
    iterate 6
      refine wpS_takeL rfl rfl ?_
      go_big_quiet_step (rfl)
      refine wpQuiet_nil ?_
    refine wpS_doL rfl ?_
    intro K hK
    go_wp2_with ((go_at_call 83; refine (less_any bo ao b' b cap' cap ys xs _ (HB.out.of (hb0.trans (hb.mono hb0.size))) (HA.out.of (hb0.trans (hb.mono hb0.size))) (by have := HL.out; omega) D.out.2 D.out.1 HLE.out (Int.le_of_lt HC.out)).mono ?_; rintro e w2 ⟨ao2, b2, cap2, ds2, rfl, hsl2, hdg2, hv2, hl2, hn⟩; have SL := Lib.hid hsl2; have DG := Lib.hid hdg2; have HV := Lib.hid hv2; have HL2 := Lib.hid hl2; clear hsl2 hdg2 hv2 hl2))
    replace hb := hb.trans (hn.mono hb.size)
    refine hK.out _ _ (up_iff.2 hb) ?_
    clear hK K
    clear hn
    refine wpS_nil ?_
    simp only [List.drop_succ_cons, List.drop_zero]
    have hb1 : Below w.heap.size w w2 := hb0.trans (hb.mono hb0.size)
    have k2 : Blk w2 (w.heap.size + 1 + 1) #[.bool false, .slice none 0 0] 28 := K2.out.of hb
    clear c0 c1 d0 d1 l0 l1 K2 hb hb0
    go_wp2_with fail
    refine (trim_any _ ao2 b2 cap2 ds2 _ SL.out DG.out ys.length (by rw [HL2.out]; exact Nat.le_refl _)).mono ?_
    rintro e w3 ⟨v3, rfl, hbig, hn⟩
    rw [HV.out] at hbig
    have HBG := Lib.hid hbig
    have hvv := hbig.shape
    clear hbig
    obtain ⟨n3, a3, q3, c3, rfl⟩ := hvv
    replace k2 : Blk w3 _ _ _ := k2.of hn
    have d0 := k2.cell 0
    have d1 := k2.cell 1
    have f0 := k2.free 0
    have f1 := k2.free 1
    simp only [List.getElem?_toArray, List.getElem?_cons_zero, List.getElem?_cons_succ] at d0 d1
    have hb2 := hb1.trans (hn.mono hb1.size)
    clear hn k2 hb1
    go_wp2
    simp [bodyPost, results, Try.results18, go_sem, d0, d1]
    refine ⟨_, rfl, ?_, set2_below hb2 ?_ _ _⟩
    · have := HBG.out.set2 d0 (.bool n3) (.slice a3 q3 c3)
      exact this
    · omega
end Go.Proofs.Ytlcbomjdbdgbmaa
/- gromaref01's Add, joined. -/
namespace Go.Proofs.Ytlcbomjdbdgbmaa
open Go.RowKit
theorem GivesBig.mono {w : World} {n : Int} {L L' : Nat} (hl : L ≤ L') {e : Ending} {w' : World} (h : GivesBig w n L e w') : GivesBig w n L' e w' := by
  obtain ⟨v, h1, h2, h3⟩ := h
  exact ⟨v, h1, h2.mono hl, h3⟩
theorem bigAdd_any (v v' : Value) (n m : Int) (L : Nat) (w : World) (h : Big w v n L) (h' : Big w v' m L) (hL : L < 268435456) :
    Calls Try.prog 18 #[v, v'] w (GivesBig w (n + m) (L + 1)) := by
  obtain ⟨neg, ao, b, cap, ds, rfl, hs, hd, hn, hz, hv, hl⟩ := h
  obtain ⟨neg', ao', b', cap', ds', rfl, hs', hd', hn', hz', hv', hl'⟩ := h'
  by_cases hq : neg' = neg
  · subst hq
    refine (bigAdd_same neg' ao ao' b b' cap cap' ds ds' w hs hs' hd hd' (by omega) (by omega)).mono ?_
    intro e w2 hg
    have hx : n + m = (bif neg' then -(dval ds + dval ds') else dval ds + dval ds') := by
      rw [hv, hv']; cases neg' <;> simp <;> omega
    rw [hx]
    exact hg.mono (by omega)
  · have hq' : neg' = !neg := by cases neg <;> cases neg' <;> simp_all
    subst hq'
    by_cases hc : dval ds' ≤ dval ds
    · refine (bigAdd_ge neg ao ao' b b' cap cap' ds ds' w hs hs' hd hd' hn hn' hc (by omega) (by omega)).mono ?_
      intro e w2 hg
      have hx : n + m = (bif neg then -(dval ds - dval ds') else dval ds - dval ds') := by
        rw [hv, hv']; cases neg <;> simp <;> omega
      rw [hx]
      exact hg.mono (by omega)
    · refine (bigAdd_lt neg ao ao' b b' cap cap' ds ds' w hs hs' hd hd' hn hn' (by omega) (by omega) (by omega)).mono ?_
      intro e w2 hg
      have hx : n + m = (bif !neg then -(dval ds' - dval ds) else dval ds' - dval ds) := by
        rw [hv, hv']; cases neg <;> simp <;> omega
      rw [hx]
      exact hg.mono (by omega)
end Go.Proofs.Ytlcbomjdbdgbmaa
/- gromaref01's Sub. -/
namespace Go.Proofs.Ytlcbomjdbdgbmaa
open Go.RowKit
set_option maxRecDepth 100000 in
set_option maxHeartbeats 600000 in
theorem bigSub_any (v v' : Value) (n m : Int) (L : Nat) (w : World) (h : Big w v n L) (h' : Big w v' m L) (hL : L < 268435456) :
    Calls Try.prog 68 #[v, v'] w (GivesBig w (n - m) (L + 1)) := by
  have hv := h.shape
  have hv' := h'.shape
  obtain ⟨n1, a1, q1, e1, rfl⟩ := hv
  obtain ⟨n2, a2, q2, e2, rfl⟩ := hv'
  have HA := Lib.hid h
  have HB := Lib.hid h'
  have HL := Lib.hid hL
  clear h h' hL
  go_enter Try.func68, Try.ntmps68
  go_wp2_with fail
  refine name_world ?_
  intro W hW
  have k0 : Blk W w.heap.size #[.bool n1, .slice a1 q1 e1] 28 := by rw [hW]; exact ((Blk.new _ _ _).alloc _).alloc _
  have k1 : Blk W (w.heap.size + 1) #[.bool n2, .slice a2 q2 e2] 28 := by rw [hW]; exact (Blk.new1 _ _ _ _).alloc _
  have k2 : Blk W (w.heap.size + 1 + 1) #[.bool false, .slice none 0 0] 28 := by rw [hW]; exact Blk.new2 _ _ _ _ _
  have hb0 : Below w.heap.size w W := by rw [hW]; exact below_a3 _ _ _ _
  clear hW
  have c0 := k0.cell 0
  have c1 := k0.cell 1
  have d0 := k1.cell 0
  have d1 := k1.cell 1
  simp only [List.getElem?_toArray, List.getElem?_cons_zero, List.getElem?_cons_succ] at c0 c1 d0 d1
  have l0 := k0.lt
  have l1 := k1.lt
  have K2 := Lib.hid k2
  clear k0 k1 k2
  refine wp_region_up W.heap.size 3 [(true, 0), (true, 1), (false, 2)] (by kernel_rfl) (by kernel_rfl) (fun _ _ d _ _ h => by cases d <;> exact h) ?_
  have hb : Below W.heap.size W W.drew := (Below.refl _ _).drew
  iterate 2
    refine wpS_takeL rfl rfl ?_
    go_big_quiet_step (rfl)
    refine wpQuiet_nil ?_
  refine wpS_doL rfl ?_
  intro K hK
  go_wp2_with ((go_at_call 25; refine (Minus_any _ m L _ (HB.out.of (hb0.trans (hb.mono hb0.size)))).mono ?_; rintro e w2 ⟨vm, rfl, hbm, hn⟩; have HM := Lib.hid hbm; have hvm := hbm.shape; clear hbm; obtain ⟨n3, a3, q3, e3, rfl⟩ := hvm))
  replace hb := hb.trans (hn.mono hb.size)
  refine hK.out _ _ (up_iff.2 hb) ?_
  clear hK K
  clear hn
  refine wpS_nil ?_
  simp only [List.drop_succ_cons, List.drop_zero]
  have hb1 : Below w.heap.size w w2 := hb0.trans (hb.mono hb0.size)
  have k2 : Blk w2 (w.heap.size + 1 + 1) #[.bool false, .slice none 0 0] 28 := K2.out.of hb
  clear c0 c1 d0 d1 l0 l1 K2 hb hb0
  go_wp2_with ((go_at_call 18; refine (bigAdd_any _ _ n (-m) L _ (HA.out.of hb1) HM.out HL.out).mono ?_; rintro e w3 ⟨v3, rfl, hbig, hn⟩; have HBG := Lib.hid hbig; have hvv := hbig.shape; clear hbig; obtain ⟨n4, a4, q4, e4, rfl⟩ := hvv; replace k2 : Blk w3 _ _ _ := k2.of hn; have d0 := k2.cell 0; have d1 := k2.cell 1; have f0 := k2.free 0; have f1 := k2.free 1; simp only [List.getElem?_toArray, List.getElem?_cons_zero, List.getElem?_cons_succ] at d0 d1; have hb2 := hb1.trans (hn.mono hb1.size); clear hn k2 hb1))
  simp [bodyPost, results, Try.results68, go_sem, d0, d1]
  refine ⟨_, rfl, ?_, set2_below hb2 ?_ _ _⟩
  · have := HBG.out.set2 d0 (.bool n4) (.slice a4 q4 e4)
    rw [show n + -m = n - m from by omega] at this
    exact this
  · omega
end Go.Proofs.Ytlcbomjdbdgbmaa
/- Plain arithmetic: a number's bits, gathered into digits of 15 bits; the product of two numbers, digit by digit. Conditions: none. -/
namespace Go.Proofs.Ytlcbomjdbdgbmaa

/-- the number of some words -/
def uval : List Int → Int
  | [] => 0
  | d :: t => d + 18446744073709551616 * uval t
def WordsOk (ws : List Int) : Prop := ∀ d ∈ ws, Wd d
theorem uval_bd {ws : List Int} (h : WordsOk ws) : 0 ≤ uval ws ∧ uval ws < 2 ^ (64 * ws.length) := by
  induction ws with
  | nil => simp [uval]
  | cons d t ih =>
    have h1 := ih fun x hx => h x (List.mem_cons_of_mem _ hx)
    obtain ⟨h2, h3⟩ := h d (List.mem_cons_self ..)
    have e : (2 : Int) ^ (64 * (d :: t).length) = 18446744073709551616 * 2 ^ (64 * t.length) := by
      rw [List.length_cons, Nat.mul_add, Int.pow_add, Int.mul_comm]; rfl
    rw [e, uval]; omega
theorem p2_pos (n : Nat) : (0 : Int) < 2 ^ n := Int.pow_pos (by decide)
theorem uval_bit {ws : List Int} (h : WordsOk ws) (i : Nat) : ws.getD (i / 64) 0 / 2 ^ (i % 64) % 2 = uval ws / 2 ^ i % 2 := by
  induction ws generalizing i with
  | nil => simp [uval]
  | cons d t ih =>
    obtain ⟨h2, h3⟩ := h d (List.mem_cons_self ..)
    rcases Nat.lt_or_ge i 64 with hi | hi
    · have e1 : i / 64 = 0 := by omega
      have e2 : i % 64 = i := by omega
      rw [e1, e2, uval]
      have e3 : (18446744073709551616 : Int) * uval t = 2 ^ i * (2 * (2 ^ (63 - i) * uval t)) := by
        have : (18446744073709551616 : Int) = 2 ^ i * 2 ^ 1 * 2 ^ (63 - i) := by
          rw [← Int.pow_add, ← Int.pow_add, show i + 1 + (63 - i) = 64 by omega]; rfl
        rw [this]; simp only [Int.mul_assoc, Int.pow_succ, Int.pow_zero, Int.one_mul]
      rw [e3, Int.add_mul_ediv_left _ _ (Int.ne_of_gt (p2_pos i)), Int.add_mul_emod_self_left]
      rfl
    · obtain ⟨k, rfl⟩ : ∃ k, i = 64 + k := ⟨i - 64, by omega⟩
      have e1 : (64 + k) / 64 = k / 64 + 1 := by omega
      have e2 : (64 + k) % 64 = k % 64 := by omega
      rw [e1, e2, uval]
      have e3 : (d + 18446744073709551616 * uval t) / 2 ^ (64 + k) = uval t / 2 ^ k := by
        rw [← ediv_pow]
        have e4 : (d + 18446744073709551616 * uval t) / 2 ^ 64 = uval t := by
          have : (2 : Int) ^ 64 = 18446744073709551616 := rfl
          rw [this]; omega
        rw [e4]
      rw [e3]
      exact ih (fun x hx => h x (List.mem_cons_of_mem _ hx)) k

theorem P15_two (n : Nat) : P15 n = 2 ^ (15 * n) := by
  induction n with
  | zero => rfl
  | succ n ih => rw [P15_succ, ih, Nat.mul_add, Int.pow_add, Int.mul_comm]; rfl
theorem mod_succ (x : Int) (i : Nat) : x % 2 ^ (i + 1) = x % 2 ^ i + x / 2 ^ i % 2 * 2 ^ i := by
  have h1 := Int.emod_add_mul_ediv x (2 ^ i)
  have h2 := Int.emod_add_mul_ediv (x / 2 ^ i) 2
  have p := p2_pos i
  have r0 := Int.emod_nonneg x (Int.ne_of_gt p)
  have r1 := Int.emod_lt_of_pos x p
  have t0 : 0 ≤ x / 2 ^ i % 2 := Int.emod_nonneg _ (by decide)
  have t1 : x / 2 ^ i % 2 < 2 := Int.emod_lt_of_pos _ (by decide)
  have e : (2 : Int) ^ (i + 1) = 2 ^ i * 2 := Int.pow_succ ..
  have b0 : 0 ≤ x / 2 ^ i % 2 * 2 ^ i := Int.mul_nonneg t0 (Int.le_of_lt p)
  have b1 : x / 2 ^ i % 2 * 2 ^ i ≤ 1 * 2 ^ i := Int.mul_le_mul_of_nonneg_right (by omega) (Int.le_of_lt p)
  refine (div_unique (q := x / 2 ^ i / 2) ?_ (by omega) (by omega)).2
  have e5 : (2 : Int) ^ (i + 1) * (x / 2 ^ i / 2) = 2 ^ i * (2 * (x / 2 ^ i / 2)) := by rw [e, Int.mul_assoc]
  have e6 : 2 ^ i * (x / 2 ^ i) = 2 ^ i * (x / 2 ^ i % 2) + 2 ^ i * (2 * (x / 2 ^ i / 2)) := by rw [← Int.mul_add, h2]
  have e7 : x / 2 ^ i % 2 * 2 ^ i = 2 ^ i * (x / 2 ^ i % 2) := Int.mul_comm ..
  omega

/-- the first i bits of N, as digits and what is gathered for the next one -/
structure Gat (N : Int) (i m : Nat) (ds : List Int) (r : Int) : Prop where
  ok : DigOk ds
  pos : i = 15 * ds.length + m
  sum : dval ds + P15 ds.length * r = N % 2 ^ i
  lo : 0 ≤ r
  hi : r < 2 ^ m
theorem Gat.zero (N : Int) : Gat N 0 0 [] 0 := ⟨DigOk.nil, rfl, by simp [dval], by decide, by decide⟩
theorem Gat.bit {N : Int} {i m : Nat} {ds : List Int} {r b : Int} (h : Gat N i m ds r) (hb : b = N / 2 ^ i % 2) :
    dval ds + P15 ds.length * (r + b * 2 ^ m) = N % 2 ^ (i + 1) ∧ 0 ≤ r + b * 2 ^ m ∧ r + b * 2 ^ m < 2 ^ (m + 1) := by
  have p := p2_pos m
  have t0 : 0 ≤ b := hb ▸ Int.emod_nonneg _ (by decide)
  have t1 : b < 2 := hb ▸ Int.emod_lt_of_pos _ (by decide)
  have b0 : 0 ≤ b * 2 ^ m := Int.mul_nonneg t0 (Int.le_of_lt p)
  have b1 : b * 2 ^ m ≤ 1 * 2 ^ m := Int.mul_le_mul_of_nonneg_right (by omega) (Int.le_of_lt p)
  have e : (2 : Int) ^ (m + 1) = 2 ^ m * 2 := Int.pow_succ ..
  have := h.lo; have := h.hi
  refine ⟨?_, by omega, by omega⟩
  rw [mod_succ, ← hb, ← h.sum, Int.mul_add]
  have e2 : (2 : Int) ^ i = P15 ds.length * 2 ^ m := by rw [P15_two, ← Int.pow_add, ← h.pos]
  rw [e2]
  have e3 : b * (P15 ds.length * 2 ^ m) = P15 ds.length * (b * 2 ^ m) := Int.mul_left_comm ..
  omega
theorem Gat.on {N : Int} {i m : Nat} {ds : List Int} {r b : Int} (h : Gat N i m ds r) (hb : b = N / 2 ^ i % 2) : Gat N (i + 1) (m + 1) ds (r + b * 2 ^ m) := by
  obtain ⟨h1, h2, h3⟩ := h.bit hb
  exact ⟨h.ok, by have := h.pos; omega, h1, h2, h3⟩
theorem Gat.next {N : Int} {i : Nat} {ds : List Int} {r b : Int} (h : Gat N i 14 ds r) (hb : b = N / 2 ^ i % 2) : Gat N (i + 1) 0 (ds ++ [r + b * 2 ^ 14]) 0 := by
  obtain ⟨h1, h2, h3⟩ := h.bit hb
  have h3' : r + b * 2 ^ 14 < 32768 := h3
  refine ⟨h.ok.append (DigOk.one ⟨h2, h3'⟩), ?_, ?_, by decide, by decide⟩
  · have := h.pos; rw [List.length_append, List.length_singleton]; omega
  · rw [Int.mul_zero, Int.add_zero, dval_append, ← h1]; simp [dval]
theorem Gat.done {N : Int} {i m : Nat} {ds : List Int} {r : Int} (h : Gat N i m ds r) (hm : m ≤ 14) (h0 : 0 ≤ N) (h1 : N < 2 ^ i) : DigOk (ds ++ [r]) ∧ dval (ds ++ [r]) = N := by
  have e : (2 : Int) ^ m ≤ 2 ^ 14 := by
    have := p2_pos (14 - m); have p := p2_pos m
    have e : (2 : Int) ^ 14 = 2 ^ m * 2 ^ (14 - m) := by rw [← Int.pow_add, show m + (14 - m) = 14 by omega]
    have : (2 : Int) ^ m * 1 ≤ 2 ^ m * 2 ^ (14 - m) := Int.mul_le_mul_of_nonneg_left (by omega) (by omega)
    omega
  have e14 : (2 : Int) ^ 14 = 16384 := rfl
  have := h.lo; have := h.hi
  refine ⟨h.ok.append (DigOk.one ⟨by omega, by omega⟩), ?_⟩
  have := h.sum
  rw [Int.emod_eq_of_lt h0 h1] at this
  rw [dval_append, ← this]; simp [dval]

theorem dval_set {ds : List Int} {j : Nat} (hj : j < ds.length) (v : Int) : dval (ds.set j v) = dval ds + P15 j * (v - ds.getD j 0) := by
  induction ds generalizing j with
  | nil => cases hj
  | cons d t ih =>
    cases j with
    | zero => simp [dval, P15_0]; omega
    | succ j =>
      have hj' : j < t.length := by simpa using hj
      rw [List.set_cons_succ, dval, dval, ih hj', P15_succ, List.getD_cons_succ, Int.mul_add, Int.mul_assoc]; omega
theorem DigOk.set {ds : List Int} (h : DigOk ds) {v : Int} (hv : 0 ≤ v ∧ v < 32768) (j : Nat) : DigOk (ds.set j v) := fun x hx => by
  rcases List.mem_or_eq_of_mem_set hx with h' | h'
  · exact h x h'
  · rw [h']; exact hv
theorem getD_set_ne {ds : List Int} {i j : Nat} (h : i ≠ j) (v : Int) : (ds.set i v).getD j 0 = ds.getD j 0 := by
  simp [List.getD, List.getElem?_set_ne h]
theorem dval_take_succ' (ds : List Int) (k : Nat) : dval (ds.take (k + 1)) = dval (ds.take k) + P15 k * ds.getD k 0 := by
  rcases Nat.lt_or_ge k ds.length with h | h
  · rw [List.take_succ_eq_append_getElem h, dval_append, List.length_take, Nat.min_eq_left (by omega), getD_in' h]
    simp [dval]
  · rw [List.take_of_length_le (by omega), List.take_of_length_le h, getD_out h]; simp

/-- the product so far: all of the first i digits, and of the next one as many as k of the other number's -/
structure Prd (xs ys : List Int) (n i k : Nat) (out : List Int) (c : Int) : Prop where
  ok : DigOk out
  len : out.length = n
  sum : dval out + P15 (i + k) * c = dval (xs.take i) * dval ys + P15 i * (xs.getD i 0 * dval (ys.take k))
  far : ∀ j, i + ys.length ≤ j → out.getD j 0 = 0
  lo : 0 ≤ c
  hi : c ≤ 32767
theorem Prd.start {xs ys : List Int} {n i : Nat} {out : List Int} (h1 : DigOk out) (h2 : out.length = n) (h3 : dval out = dval (xs.take i) * dval ys) (h4 : ∀ j, i + ys.length ≤ j → out.getD j 0 = 0) : Prd xs ys n i 0 out 0 :=
  ⟨h1, h2, by rw [h3]; simp [dval], h4, by decide, by decide⟩
theorem prd_n {a x y c : Int} (ha : 0 ≤ a ∧ a < 32768) (hx : 0 ≤ x ∧ x < 32768) (hy : 0 ≤ y ∧ y < 32768) (hc : 0 ≤ c ∧ c ≤ 32767) :
    0 ≤ x * y ∧ x * y ≤ 1073676289 ∧ 0 ≤ (a + x * y + c) / 32768 ∧ (a + x * y + c) / 32768 ≤ 32767 := by
  have h1 : 0 ≤ x * y := Int.mul_nonneg hx.1 hy.1
  have h2 : x * y ≤ 32767 * 32767 := Int.mul_le_mul (by omega) (by omega) hy.1 (by decide)
  omega
theorem Prd.step {xs ys : List Int} {n i k : Nat} {out : List Int} {c x y a : Int} (h : Prd xs ys n i k out c) (dx : DigOk xs) (dy : DigOk ys) (hk : k < ys.length) (hn : i + ys.length < n)
    (hx : x = xs.getD i 0) (hy : y = ys.getD k 0) (ha : a = out.getD (i + k) 0) :
    Prd xs ys n i (k + 1) (out.set (i + k) ((a + x * y + c) % 32768)) ((a + x * y + c) / 32768) := by
  have b := prd_n (ha ▸ h.ok.get (i + k)) (hx ▸ dx.get i) (hy ▸ dy.get k) ⟨h.lo, h.hi⟩
  refine ⟨h.ok.set (by omega) _, by rw [List.length_set]; exact h.len, ?_, fun j hj => ?_, b.2.2.1, b.2.2.2⟩
  · rw [dval_set (by rw [h.len]; omega), ← ha, dval_take_succ', ← hx, ← hy, ← Nat.add_assoc, P15_succ]
    have e1 := h.sum
    rw [← hx] at e1
    have e2 := Int.emod_add_mul_ediv (a + x * y + c) 32768
    have e3 : 32768 * P15 (i + k) * ((a + x * y + c) / 32768) = P15 (i + k) * (32768 * ((a + x * y + c) / 32768)) := by rw [Int.mul_comm 32768, Int.mul_assoc]
    have e4 : P15 (i + k) * ((a + x * y + c) % 32768 - a) + P15 (i + k) * (32768 * ((a + x * y + c) / 32768)) = P15 (i + k) * (x * y) + P15 (i + k) * c := by
      rw [← Int.mul_add, ← Int.mul_add]
      have e6 : (a + x * y + c) % 32768 - a + 32768 * ((a + x * y + c) / 32768) = x * y + c := by omega
      rw [e6]
    have e5 : P15 i * (x * (dval (ys.take k) + P15 k * y)) = P15 i * (x * dval (ys.take k)) + P15 (i + k) * (x * y) := by
      rw [Int.mul_add, Int.mul_add, P15_add, Int.mul_assoc (P15 i), Int.mul_left_comm x]
    rw [e5, e3]; omega
  · rw [getD_set_ne (by omega)]; exact h.far j hj
theorem Prd.row {xs ys : List Int} {n i : Nat} {out : List Int} {c a : Int} (h : Prd xs ys n i ys.length out c) (hn : i + ys.length < n) (ha : a = out.getD (i + ys.length) 0) :
    Prd xs ys n (i + 1) 0 (out.set (i + ys.length) (a + c)) 0 := by
  have a0 : a = 0 := ha.trans (h.far _ (Nat.le_refl _))
  subst a0
  rw [Int.zero_add]
  refine Prd.start (h.ok.set ⟨h.lo, by have := h.hi; omega⟩ _) (by rw [List.length_set]; exact h.len) ?_ fun j hj => ?_
  · rw [dval_set (by rw [h.len]; omega), ← ha, Int.sub_zero, h.sum, List.take_of_length_le (Nat.le_refl _), dval_take_succ', Int.add_mul, Int.mul_assoc]
  · rw [getD_set_ne (by omega)]; exact h.far j (by omega)
theorem dval_repl (n : Nat) : dval (List.replicate n 0) = 0 := by
  induction n with
  | zero => rfl
  | succ n ih => rw [List.replicate_succ, dval, ih]; rfl
theorem Prd.zero (xs ys : List Int) (n : Nat) : Prd xs ys n 0 0 (List.replicate n 0) 0 := by
  refine Prd.start (fun x hx => by rw [(List.mem_replicate.1 hx).2]; decide) (List.length_replicate ..) (by rw [dval_repl]; simp [dval]) fun j _ => ?_
  rcases Nat.lt_or_ge j n with h | h
  · rw [getD_in' (by rw [List.length_replicate]; exact h)]; simp
  · exact getD_out (by rw [List.length_replicate]; exact h)
theorem Prd.all {xs ys : List Int} {n : Nat} {out : List Int} {c : Int} (h : Prd xs ys n xs.length 0 out c) (hc : c = 0) : DigOk out ∧ dval out = dval xs * dval ys := by
  refine ⟨h.ok, ?_⟩
  have := h.sum
  rw [hc, Int.mul_zero, Int.add_zero, List.take_of_length_le (Nat.le_refl _)] at this
  rw [this]; simp [dval]
end Go.Proofs.Ytlcbomjdbdgbmaa
/- Plain arithmetic of fractions: what New, Floor, common, Reduced of package ratio compute. Conditions: none. -/
namespace Go.Proofs.Ytlcbomjdbdgbmaa

/-- of a divisor above 0 the quotient and the rest are Lean's own -/
theorem fq_pos {x y : Int} (hy : 0 < y) : fq x y = x / y := by unfold fq; rw [if_pos (by omega)]
theorem fr_pos' {x y : Int} (hy : 0 < y) : fr x y = x % y := by unfold fr; rw [if_pos (by omega)]
theorem ediv_in {x y : Int} (ix : InI x) (hy : 0 < y) : InI (x / y) := by
  obtain ⟨h1, h2⟩ := ix
  have e := Int.emod_add_mul_ediv x y
  have r0 := Int.emod_nonneg x (show y ≠ 0 by omega)
  have r1 := Int.emod_lt_of_pos x hy
  rcases Int.lt_or_le x 0 with hx | hx
  · have hq : x / y < 0 := Int.ediv_neg_of_neg_of_pos hx hy
    have : y * (x / y) ≤ 1 * (x / y) := by
      have := Int.mul_le_mul_of_nonpos_right (show (1 : Int) ≤ y by omega) (Int.le_of_lt hq)
      exact this
    have hlo : x ≤ x / y := by
      rcases Int.lt_or_le (x / y) x with h | h
      · have h3 : y * (x / y) ≤ y * (x - 1) := Int.mul_le_mul_of_nonneg_left (by omega) (by omega)
        have h4 : y * (x - 1) ≤ 1 * (x - 1) := Int.mul_le_mul_of_nonpos_right (by omega) (by omega)
        have h5 : y * (x - 1) = y * x - y := by rw [Int.mul_sub, Int.mul_one]
        have h6 : y * x ≤ 1 * x := Int.mul_le_mul_of_nonpos_right (by omega) (by omega)
        omega
      · exact h
    unfold InI b255 at *; omega
  · have h0 := Int.ediv_nonneg hx (Int.le_of_lt hy)
    have h3 := Int.ediv_le_self y hx
    unfold InI b255 at *; omega
theorem emod_in {x y : Int} (iy : InI y) (hy : 0 < y) : InI (x % y) := by
  have r0 := Int.emod_nonneg x (show y ≠ 0 by omega)
  have r1 := Int.emod_lt_of_pos x hy
  unfold InI b255 at *; omega

/-- does New make one? and which -/
def newOk (x y : Int) : Bool := decide (y ≠ 0) && (decide (0 < y) || (decide (x ≠ -b255) && decide (y ≠ -b255)))
def newN (x y : Int) : Int := bif decide (y < 0) then -x else x
def newD (_x y : Int) : Int := bif decide (y < 0) then -y else y

theorem gcd_next (a b : Int) : Int.gcd b (a % b) = Int.gcd a b := by
  have e := Int.emod_add_mul_ediv a b
  rw [Int.gcd_comm a b]
  conv => rhs; rw [← e]
  rw [Int.gcd_add_mul_left_right]
theorem gcd_last {a b : Int} (hb : 0 < b) (h : a % b = 0) : (Int.gcd a b : Int) = b := by
  rw [← gcd_next, h, Int.gcd_zero_right]; omega
/-- both numbers by the greatest one that divides both -/
theorem gcd_one {a b : Int} (hb : 0 < b) : Int.gcd (a / (Int.gcd a b : Int)) (b / (Int.gcd a b : Int)) = 1 ∧ 0 < b / (Int.gcd a b : Int) ∧ 0 < (Int.gcd a b : Int) ∧ (Int.gcd a b : Int) ≤ b ∧ a / (Int.gcd a b : Int) * b = b / (Int.gcd a b : Int) * a := by
  obtain ⟨g, hg⟩ : ∃ g : Int, g = (Int.gcd a b : Int) := ⟨_, rfl⟩
  have h1 : g ∣ a := hg ▸ Int.gcd_dvd_left a b
  have h2 : g ∣ b := hg ▸ Int.gcd_dvd_right a b
  have g0 : 0 < g := by
    have h : Int.gcd a b ≠ 0 := fun h => by
      rw [h] at hg
      rw [show g = 0 from hg] at h2
      have : b = 0 := Int.zero_dvd.1 h2
      omega
    omega
  obtain ⟨x, hx⟩ := h1
  obtain ⟨y, hy⟩ := h2
  have g0' : g ≠ 0 := by omega
  have e1 : a / g = x := by rw [hx]; exact Int.mul_ediv_cancel_left _ g0'
  have e2 : b / g = y := by rw [hy]; exact Int.mul_ediv_cancel_left _ g0'
  have y0 : 0 < y := by
    rcases Int.lt_or_le 0 y with h | h
    · exact h
    · have := Int.mul_nonpos_of_nonneg_of_nonpos (Int.le_of_lt g0) h; omega
  have hle : g * 1 ≤ g * y := Int.mul_le_mul_of_nonneg_left (by omega) (by omega)
  rw [← hg, e1, e2]
  refine ⟨?_, y0, g0, by omega, ?_⟩
  · have h3 : (Int.gcd x y : Int) * g ∣ (Int.gcd a b : Int) := by
      refine Int.dvd_coe_gcd ?_ ?_
      · rw [hx, Int.mul_comm g x]; exact Int.mul_dvd_mul (Int.gcd_dvd_left x y) (Int.dvd_refl g)
      · rw [hy, Int.mul_comm g y]; exact Int.mul_dvd_mul (Int.gcd_dvd_right x y) (Int.dvd_refl g)
    rw [← hg] at h3
    have h4 := Int.le_of_dvd g0 h3
    have h5 : 0 < Int.gcd x y := Int.gcd_pos_of_ne_zero_right _ (by omega)
    rcases Nat.lt_or_ge (Int.gcd x y) 2 with h6 | h6
    · omega
    · have h7 : 2 * g ≤ (Int.gcd x y : Int) * g := Int.mul_le_mul_of_nonneg_right (by omega) (by omega)
      omega
  · rw [hx, hy, Int.mul_left_comm, Int.mul_left_comm y, Int.mul_comm x y]
end Go.Proofs.Ytlcbomjdbdgbmaa
/- The walk of gromaref01's Words. Conditions: at most four words. -/
namespace Go.Proofs.Ytlcbomjdbdgbmaa
open Go.RowKit

/-- a slice of words that holds these -/
structure Ws (w : World) (b : Nat) (ws : List Int) : Prop where
  cell : ∀ i, i < ws.length → w.cell? ⟨b, i, none⟩ = some (.int .u64 (ws.getD i 0))
  blk : b < w.heap.size
  ok : WordsOk ws
  len : ws.length ≤ 4
theorem Ws.of {w w' : World} {b : Nat} {ws : List Int} (h : Ws w b ws) (hb : Below w.heap.size w w') : Ws w' b ws :=
  ⟨fun i hi => by rw [hb.cell (p := ⟨b, i, none⟩) h.blk]; exact h.cell i hi, Nat.lt_of_lt_of_le h.blk hb.size, h.ok, h.len⟩

theorem Blk.grown {w w' : World} {b : Nat} {c : Array Value} {t : TypeId} {row : Option Nat} (h : Blk w b c t) (hg : w.grownBy w' row) (hne : row ≠ some b) : Blk w' b c t := by
  have := hg.block b h.lt (fun e => hne e.symm)
  exact this.trans h
theorem ownsRow_drew {w : World} {base n size : Nat} {e : TypeId} {v : Value} {xs : List Value} (h : w.ownsRow base e size v n xs) : w.drew.ownsRow base e size v n xs := h
theorem words_get {ws : List Int} (h : WordsOk ws) (i : Nat) : Wd (ws.getD i 0) := by
  by_cases hi : i < ws.length
  · rw [getD_in' hi]; exact h _ (List.getElem_mem hi)
  · rw [getD_out (by omega)]; exact ⟨by decide, by decide⟩
theorem p2_le {i j : Nat} (h : i ≤ j) : (2 : Int) ^ i ≤ 2 ^ j := by
  have e : (2 : Int) ^ j = 2 ^ i * 2 ^ (j - i) := by rw [← Int.pow_add, show i + (j - i) = j by omega]
  have := p2_pos (j - i); have p := p2_pos i
  have : (2 : Int) ^ i * 1 ≤ 2 ^ i * 2 ^ (j - i) := Int.mul_le_mul_of_nonneg_left (by omega) (by omega)
  omega
theorem u64_p2 {i : Nat} (h : i < 64) : IntKind.u64.wrap (2 ^ i) = 2 ^ i := by
  have p := p2_pos i
  have e : (2 : Int) ^ 64 = 2 ^ i * 2 ^ (64 - i) := by rw [← Int.pow_add, show i + (64 - i) = 64 by omega]
  have q : (2 : Int) ^ i * 2 ≤ 2 ^ i * 2 ^ (64 - i) := by
    refine Int.mul_le_mul_of_nonneg_left ?_ (Int.le_of_lt p)
    have e2 : (2 : Int) ^ (64 - i) = 2 * 2 ^ (63 - i) := by rw [show 64 - i = (63 - i) + 1 by omega, Int.pow_succ, Int.mul_comm]
    have := p2_pos (63 - i)
    omega
  have e64 : (2 : Int) ^ 64 = 18446744073709551616 := rfl
  have hw : ∀ x : Int, 0 ≤ x → x < 18446744073709551616 → IntKind.u64.wrap x = x := fun x h0 h1 => by simp [IntKind.wrap, IntKind.signed, IntKind.bits]; omega
  exact hw _ (Int.le_of_lt p) (by omega)

set_option maxRecDepth 100000 in
set_option maxHeartbeats 1000000 in
theorem Words_any (b cap n : Nat) (ws : List Int) (w : World) (h : Ws w b ws) (hn : n = ws.length) :
    Calls Try.prog 89 #[.slice (some ⟨b, 0, none⟩) n cap] w (GivesBig w (uval ws) (64 * n / 15 + 1)) := by
  obtain ⟨i0, hi, hz0, hz1, hz2⟩ := info_parts info_int
  have HW := Lib.hid h
  have HN := Lib.hid hn
  have n4 : n ≤ 4 := hn ▸ h.len
  clear h hn
  go_enter Try.func89, Try.ntmps89
  go_wp2_with fail
  refine name_world ?_
  intro W hW
  have k0 : Blk W w.heap.size #[.bool false, .slice none 0 0] 28 := by rw [hW]; exact Blk.new _ _ _
  have hb0 : Below w.heap.size w W := by rw [hW]; exact below_a1 _ _
  clear hW
  go_loopw [3, 4, 5, 6] (fun out room many i wr => ∃ (k m L : Nat) (r : Int) (ds : List Int), k ≤ 64 * n ∧ i = .int .i64 k ∧ many = .int .i64 m ∧ m ≤ 14 ∧ room = .int .u64 r ∧ 0 ≤ r ∧ r < 32768 ∧ L ≤ 18 ∧ wr.ownsRow (w.heap.size + 1) 3 1 out L (dg ds) ∧
      Hid (ds.length = L ∧ Gat (uval ws) k m ds r) ∧ Blk wr w.heap.size #[.bool false, .slice none 0 0] 28 ∧ Below w.heap.size w wr) (fun _ _ _ i _ => 64 * n - (intOf i).toNat)
  case atStart => exact ⟨0, 0, 0, 0, [], Nat.zero_le _, rfl, rfl, by decide, rfl, by decide, by decide, by decide, World.ownsRow_nil _ _ _ _, ⟨rfl, Gat.zero _⟩, k0, hb0⟩
  case round =>
    clear k0 hb0
    rename_i wr
    obtain ⟨k, m, L, r, ds, hk, rfl, rfl, hm, rfl, r0, r1, hL, hown, hds, kr, hbl⟩ := hrel
    by_cases h1 : k < 64 * n
    · have e0 : wr.cell? ⟨b, k / 64, none⟩ = some (.int .u64 (ws.getD (k / 64) 0)) := by rw [hbl.cell (p := ⟨b, k / 64, none⟩) HW.out.blk]; exact HW.out.cell _ (by rw [← HN.out]; omega)
      obtain ⟨x, hx⟩ : ∃ x, x = ws.getD (k / 64) 0 := ⟨_, rfl⟩
      rw [← hx] at e0
      have HX := Lib.hid hx
      have KR := Lib.hid kr
      clear hx kr
      have l0 : b < wr.heap.size := Nat.lt_of_lt_of_le HW.out.blk hbl.size
      go_wp2_with fail
      refine name_world ?_
      intro W hW
      subst hW
      refine wp_region_up W.heap.size 11 [(true, 0), (true, 1), (true, 2), (true, 3), (true, 4), (true, 5), (true, 6), (true, 7), (true, 8), (true, 9), (true, 10)] (by kernel_rfl) (by kernel_rfl) (fun _ _ d _ _ h => by cases d <;> exact h) ?_
      iterate 8
        refine wpS_takeL rfl rfl ?_
        go_big_quiet_step (rfl)
        refine wpQuiet_nil ?_
      obtain ⟨p, hp⟩ : ∃ p : Int, p = IntKind.u64.wrap (2 ^ (k % 64)) := ⟨_, rfl⟩
      rw [← hp]
      have p0 : 0 < p := by rw [hp, u64_p2 (by omega)]; exact p2_pos _
      have HP := Lib.hid hp
      clear hp
      have hxw : Wd x := HX.out ▸ words_get HW.out.ok _
      have x0 := hxw.lo
      have x1 : x ≤ 18446744073709551615 := by have := hxw.hi; omega
      clear hxw
      refine wpS_takeL rfl rfl ?_
      go_big_quiet_step (rfl)
      refine wpQuiet_nil ?_
      obtain ⟨q, hq⟩ : ∃ q : Int, q = x / p := ⟨_, rfl⟩
      rw [← hq]
      have q0 : 0 ≤ q := by rw [hq]; exact Int.ediv_nonneg x0 (Int.le_of_lt p0)
      have q1 : q ≤ 18446744073709551615 := by rw [hq]; exact Int.le_trans (Int.ediv_le_self _ x0) x1
      have HQ := Lib.hid hq
      clear hq x0 x1
      refine wpS_takeL rfl rfl ?_
      go_big_quiet_step (rfl)
      refine wpQuiet_nil ?_
      obtain ⟨t, ht⟩ : ∃ t : Int, t = q % 2 := ⟨_, rfl⟩
      rw [← ht]
      have t0 : 0 ≤ t := by omega
      have t1 : t ≤ 1 := by omega
      have hbit : t = uval ws / 2 ^ k % 2 := by
        rw [ht, HQ.out, HP.out, HX.out, u64_p2 (by omega)]
        exact uval_bit HW.out.ok k
      have HB := Lib.hid hbit
      clear ht hbit q0 q1
      refine wpS_takeL rfl rfl ?_
      go_big_quiet_step (rfl)
      refine wpQuiet_nil ?_
      refine wpS_nil ?_
      simp only [List.drop_succ_cons, List.drop_zero]
      have hst := hds.out.2.bit HB.out
      have r2 : r + t * 2 ^ m < 2 ^ 15 := Int.lt_of_lt_of_le hst.2.2 (p2_le (by omega))
      obtain ⟨r3, hr3⟩ : ∃ r3 : Int, r3 = r + t * 2 ^ m := ⟨_, rfl⟩
      rw [← hr3] at hst r2
      have r30 := hst.2.1
      have r31 : r3 ≤ 32767 := by have : (2 : Int) ^ 15 = 32768 := rfl; omega
      obtain ⟨P, hP⟩ : ∃ P : Int, P = IntKind.u64.wrap (2 ^ m) := ⟨_, rfl⟩
      have hP' : P = 2 ^ m := hP.trans (u64_p2 (by omega))
      have hT : IntKind.u64.wrap (t * P) = r3 - r := by
        rw [show t * P = r3 - r by rw [hP', hr3]; omega]
        have := Int.mul_nonneg t0 (Int.le_of_lt (p2_pos m))
        exact IntWalk.u64_in _ (by omega)
      have hP2 : IntKind.u64.wrap (2 ^ m) = P := hP.symm
      have hR : r + (r3 - r) = r3 := by omega
      have R3 := Lib.hid hr3
      clear hst r2 hr3 hP' hP
      have h15 : ((m : Int) + 1 == 15) = true ∨ ((m : Int) + 1 == 15) = false := by cases ((m : Int) + 1 == 15) <;> simp
      clear e0 l0
      rcases h15 with h15 | h15
      · have m14 : m = 14 := by have := beq_iff_eq.1 h15; omega
        have hst := hds.out.2
        have hlen := hds.out.1
        rw [m14] at hst
        have R4 := R3.out
        rw [m14] at R4
        have ST := Lib.hid (hst.next HB.out)
        rw [← R4] at ST
        have HL := Lib.hid hlen
        have hL' : 15 * L ≤ 256 := by have := hst.pos; omega
        clear hst hlen R4 m14 hds
        go_wp2_with (at_builtin; refine wpList_append_own _ rfl _ _ 26 rfl (w.heap.size + 1) 3 i0 (.int .i64 0) 1 8 Try.underlying26 hi hz0 hz1 hz2 rfl (by decide) _ _ _ rfl ((ownsRow_drew hown).alloc _) ⟨W.heap.size, 0, none⟩ 1 1 [.int .i64 r3] rfl rfl (one_new W.drew _ _) (one_cell _) (by unfold maxLen; omega) (by omega) (by have := hbl.size; have := KR.out.lt; simp; omega) ?_; intro v' w1 hown' hgrow _)
        have hb1 : Below w.heap.size w w1 := (hbl.drew.alloc hbl.size _).grown hgrow (by have := hbl.size; simp; omega) (fun k hk => Nat.le_of_succ_le (hown.lt k hk).1)
        have k1 : Blk w1 w.heap.size #[.bool false, .slice none 0 0] 28 := (KR.out.drew.alloc _).grown hgrow (fun h => Nat.lt_irrefl _ (hown.lt _ h).1)
        rw [← dg_snoc] at hown'
        clear hown hbl hgrow
        go_wp2
        go_roundw
        case rel => exact ⟨k + 1, 0, L + 1, 0, _, by omega, by go_num, rfl, by decide, rfl, by decide, by decide, by omega, hown', ⟨by rw [List.length_append, HL.out]; rfl, ST.out⟩, k1, hb1⟩
        case measure => simp [intOf]; omega
      · have m13 : m + 1 ≤ 14 := by have := beq_eq_false_iff_ne.1 h15; omega
        have ST := Lib.hid (hds.out.2.on HB.out)
        rw [← R3.out] at ST
        have HL := Lib.hid hds.out.1
        have k1 : Blk W.drew w.heap.size #[.bool false, .slice none 0 0] 28 := KR.out.drew
        have K1 := Lib.hid k1
        clear hds k1
        go_wp2
        go_roundw
        case rel => exact ⟨k + 1, m + 1, L, r3, ds, by omega, by go_num, by go_num, by omega, rfl, by omega, by omega, hL, ownsRow_drew hown, ⟨HL.out, ST.out⟩, K1.out, hbl.drew⟩
        case measure => simp [intOf]; omega
    · have hk' : k = 64 * n := by omega
      have HK := Lib.hid hk'
      have KR := Lib.hid kr
      have hL' : 15 * L ≤ 256 := by have := hds.out.2.pos; have := hds.out.1; omega
      have gl : (ds ++ [r]).length = L + 1 := by rw [List.length_append, hds.out.1]; rfl
      have fin := hds.out.2.done hm (uval_bd HW.out.ok).1 (by rw [HK.out, HN.out]; exact (uval_bd HW.out.ok).2)
      have HP := Lib.hid (show (ds ++ [r]).length ≤ 64 * n / 15 + 1 by have := HK.out; have := hds.out.2.pos; have := hds.out.1; omega)
      have FIN := Lib.hid fin
      have GL := Lib.hid gl
      clear hk' kr hds gl fin
      go_wp2_with (at_builtin; refine wpList_append_own _ rfl _ _ 26 rfl (w.heap.size + 1) 3 i0 (.int .i64 0) 1 8 Try.underlying26 hi hz0 hz1 hz2 rfl (by decide) _ _ _ rfl (hown.alloc _) ⟨wr.heap.size, 0, none⟩ 1 1 [.int .i64 r] rfl rfl (one_new _ _ _) (one_cell _) (by unfold maxLen; omega) (by omega) (by have := hbl.size; have := KR.out.lt; simp; omega) ?_; intro v' w1 hown' hgrow _; rw [← dg_snoc] at hown'; obtain ⟨ao2, b2, cap2, hv, hsl⟩ := own_sl hown' GL.out (by omega); subst hv; rw [GL.out]; have hb1 : Below w.heap.size w w1 := (hbl.alloc hbl.size _).grown hgrow (by have := hbl.size; simp; omega) (fun k hk => Nat.le_of_succ_le (hown.lt k hk).1); have k1 : Blk w1 w.heap.size #[.bool false, .slice none 0 0] 28 := (KR.out.alloc _).grown hgrow (fun h => Nat.lt_irrefl _ (hown.lt _ h).1); have SL := Lib.hid hsl; have K1 := Lib.hid k1; clear hown hown' hbl hgrow hsl k1 KR)
      have T := trim_any false ao2 b2 cap2 (ds ++ [r]) w1 SL.out FIN.out.1 (64 * n / 15 + 1) HP.out
      rw [GL.out, FIN.out.2] at T
      refine T.mono ?_
      clear T
      rintro e w3 ⟨v3, rfl, hbig, hn⟩
      have HBG := Lib.hid hbig
      have hvv := hbig.shape
      clear hbig
      obtain ⟨n3, a3, q3, c3, rfl⟩ := hvv
      have k2 : Blk w3 _ _ _ := K1.out.of hn
      have d0 := k2.cell 0
      have d1 := k2.cell 1
      have f0 := k2.free 0
      have f1 := k2.free 1
      simp only [List.getElem?_toArray, List.getElem?_cons_zero, List.getElem?_cons_succ] at d0 d1
      have hb2 := hb1.trans (hn.mono hb1.size)
      clear hn k2 hb1
      go_wp2
      simp [bodyPost, results, Try.results89, go_sem, d0, d1]
      refine ⟨_, rfl, ?_, set2_below hb2 (Nat.le_refl _) _ _⟩
      exact HBG.out.set2 d0 (.bool n3) (.slice a3 q3 c3)
end Go.Proofs.Ytlcbomjdbdgbmaa
/- The walks of gromaref01's Power and Read. Conditions: the power is at most 256. -/
namespace Go.Proofs.Ytlcbomjdbdgbmaa
open Go.RowKit

/-- a number that is not too great has not too many digits -/
theorem Big.fit {w : World} {v : Value} {n : Int} {L k : Nat} (h : Big w v n L) (hk : -P15 k < n ∧ n < P15 k) : Big w v n k := by
  obtain ⟨neg, ao, b, cap, ds, h1, h2, h3, h4, h5, h6, h7⟩ := h
  refine ⟨neg, ao, b, cap, ds, h1, h2, h3, h4, h5, h6, norm_len h3 h4 ?_⟩
  cases neg <;> simp at h6 <;> omega
theorem GivesBig.fit {w : World} {n : Int} {L k : Nat} {e : Ending} {w' : World} (h : GivesBig w n L e w') (hk : -P15 k < n ∧ n < P15 k) : GivesBig w n k e w' := by
  obtain ⟨v, h1, h2, h3⟩ := h
  exact ⟨v, h1, h2.fit hk, h3⟩
theorem p2_15 (k : Nat) : (2 : Int) ^ k < P15 (k / 15 + 1) := by
  rw [P15_two]
  have h1 : (2 : Int) ^ k * 2 = 2 ^ (k + 1) := (Int.pow_succ ..).symm
  have h2 := p2_le (show k + 1 ≤ 15 * (k / 15 + 1) by omega)
  have := p2_pos k
  omega
theorem big_one (w : World) : Big (w.alloc (.cells #[.int .i64 1] 3)) (.agg #[.bool false, .slice (some ⟨w.heap.size, 0, none⟩) 1 1]) 1 1 := by
  have hb := Blk.new w #[.int .i64 1] 3
  refine ⟨false, some ⟨w.heap.size, 0, none⟩, w.heap.size, 1, [1], rfl, ⟨fun _ => rfl, fun h => (by cases h), by decide, by decide, by decide, fun i hi => ?_, fun _ => hb.lt⟩, ?_, .inr ?_, fun h => (by cases h), rfl, by decide⟩
  · have : i = 0 := by simp at hi; exact hi
    subst this
    rw [hb.cell]; rfl
  · exact DigOk.one (by decide)
  · decide

set_option maxRecDepth 100000 in
set_option maxHeartbeats 1000000 in
theorem Power_any (n : Nat) (w : World) (hn : n ≤ 256) :
    Calls Try.prog 90 #[.int .i64 n] w (GivesBig w (2 ^ n) (n / 15 + 1)) := by
  go_enter Try.func90, Try.ntmps90
  go_wp2_with fail
  refine name_world ?_
  intro W hW
  have k0 : Blk W w.heap.size #[.bool false, .slice none 0 0] 28 := by rw [hW]; exact ((Blk.new _ _ _).alloc _).alloc _
  have k1 : Blk W (w.heap.size + 1 + 1) #[.bool false, .slice (some ⟨w.heap.size + 1, 0, none⟩) 1 1] 28 := by rw [hW]; exact Blk.new2 _ _ _ _ _
  have hbg : Big W (.agg #[.bool false, .slice (some ⟨w.heap.size + 1, 0, none⟩) 1 1]) 1 1 := by
    rw [hW]
    have := (big_one (w.alloc (.cells #[.bool false, .slice none 0 0] 28))).of (((Below.refl _ _).alloc (Nat.le_refl _) (.cells #[.bool false, .slice (some ⟨w.heap.size + 1, 0, none⟩) 1 1] 28)))
    simpa using this
  have hb0 : Below w.heap.size w W := by rw [hW]; exact below_a3 _ _ _ _
  clear hW
  go_loopw [4] (fun i wr => ∃ (k : Nat) (neg : Bool) (a : Option Addr) (l c : Nat), k ≤ n ∧ i = .int .i64 k ∧ Blk wr w.heap.size #[.bool false, .slice none 0 0] 28 ∧ Blk wr (w.heap.size + 1 + 1) #[.bool neg, .slice a l c] 28 ∧
      Hid (Big wr (.agg #[.bool neg, .slice a l c]) (2 ^ k) (k / 15 + 1)) ∧ Below w.heap.size w wr) (fun i _ => n - (intOf i).toNat)
  case atStart => exact ⟨0, false, _, 1, 1, Nat.zero_le _, rfl, k0, k1, hbg, hb0⟩
  case round =>
    clear k0 k1 hbg hb0
    rename_i wr
    obtain ⟨k, neg, a, l, c, hk, rfl, k0, k1, hbg, hbl⟩ := hrel
    have c0 := k1.cell 0
    have c1 := k1.cell 1
    have f0 := k1.free 0
    have f1 := k1.free 1
    simp only [List.getElem?_toArray, List.getElem?_cons_zero, List.getElem?_cons_succ] at c0 c1
    by_cases h1 : k < n
    · have K0 := Lib.hid k0
      have K1 := Lib.hid k1
      clear k0 k1 f0 f1
      go_wp2_with fail
      refine (bigAdd_any _ _ (2 ^ k) (2 ^ k) (k / 15 + 1) _ hbg.out hbg.out (by omega)).mono ?_
      rintro e w3 ⟨v3, rfl, hbig, hn⟩
      have e2 : (2 : Int) ^ k + 2 ^ k = 2 ^ (k + 1) := by rw [Int.pow_succ]; omega
      rw [e2] at hbig
      have hf := hbig.fit (k := (k + 1) / 15 + 1) ⟨by have := p2_15 (k + 1); have := p2_pos (k + 1); omega, p2_15 (k + 1)⟩
      have HBG := Lib.hid hf
      have hvv := hbig.shape
      clear hbig hf e2 c0 c1
      obtain ⟨n3, a3, q3, c3, rfl⟩ := hvv
      have k0 := K0.out.of hn
      have k1 := K1.out.of hn
      have d0 := k1.cell 0
      have d1 := k1.cell 1
      have f0 := k1.free 0
      have f1 := k1.free 1
      simp only [List.getElem?_toArray, List.getElem?_cons_zero, List.getElem?_cons_succ] at d0 d1
      have hb2 := hbl.trans (hn.mono hbl.size)
      have K0' := Lib.hid k0
      have K1' := Lib.hid k1
      clear hn k0 k1 K0 K1 hbl hbg
      go_wp2
      go_roundw
      case rel =>
        refine ⟨k + 1, n3, a3, q3, c3, by omega, by go_num, (K0'.out.set (by omega) _ _ _).set (by omega) _ _ _, ?_, HBG.out.set2 d0 (.bool n3) (.slice a3 q3 c3), set2_below hb2 (by omega) _ _⟩
        exact (Blk.put K1'.out 0 _).put 1 _
      case measure => simp [intOf]; omega
    · have hk' : k = n := by omega
      subst hk'
      have d0 := k0.cell 0
      have d1 := k0.cell 1
      have f2 := k0.free 0
      have f3 := k0.free 1
      simp only [List.getElem?_toArray, List.getElem?_cons_zero, List.getElem?_cons_succ] at d0 d1
      clear k0 k1
      go_wp2
      simp [bodyPost, results, Try.results90, go_sem, d0, d1]
      exact ⟨_, rfl, hbg.out.set2 d0 (.bool neg) (.slice a l c), set2_below hbl (Nat.le_refl _) _ _⟩
end Go.Proofs.Ytlcbomjdbdgbmaa
/- The walk of gromaref01's Read. Conditions: none. -/
namespace Go.Proofs.Ytlcbomjdbdgbmaa
open Go.RowKit

theorem uval_wd (x : Int) : uval [wd0 x, wd1 x, wd2 x, wd3 x] = x % b256 := by
  rw [← un4_wd]
  simp only [uval, un4, b64, b128, b192]; omega
theorem ws_wd (x : Int) : WordsOk [wd0 x, wd1 x, wd2 x, wd3 x] := by
  intro d hd
  simp only [List.mem_cons, List.not_mem_nil, or_false] at hd
  rcases hd with rfl | rfl | rfl | rfl
  · exact wd0_Wd x
  · exact wd1_Wd x
  · exact wd2_Wd x
  · exact wd3_Wd x
theorem sg_neg {x : Int} (h : ng x = true) : x % b256 - b256 = sg x := by
  rw [ng_iff] at h; unfold sg; unfold b255 b256 at *; omega
theorem sg_pos {x : Int} (h : ng x = false) : x % b256 = sg x := by
  have h' : ¬ ng x = true := by rw [h]; exact Bool.false_ne_true
  rw [ng_iff] at h'; unfold sg; unfold b255 b256 at *; omega
theorem ng_ge (x : Int) : decide (9223372036854775808 ≤ wd3 x) = ng x := by
  unfold ng
  have := wd3_Wd x
  obtain ⟨h1, h2⟩ := this
  rw [Bool.eq_iff_iff, decide_eq_true_iff, bne_iff_ne]; omega
theorem p18 : (115792089237316195423570985008687907853269984665640564039457584007913129639936 : Int) < P15 18 := by
  have : P15 18 = 32768 ^ 18 := rfl
  rw [this]; decide
theorem p256 : (2 : Int) ^ 256 = b256 := by decide
theorem sg_p18 (x : Int) : -P15 18 < sg x ∧ sg x < P15 18 := by
  have := sg_bd x; have := p18; unfold b255 at *; omega

theorem ws_new (w : World) (x : Int) : Ws (w.alloc (.cells #[.int .u64 (wd0 x), .int .u64 (wd1 x), .int .u64 (wd2 x), .int .u64 (wd3 x)] 33)) w.heap.size [wd0 x, wd1 x, wd2 x, wd3 x] := by
  have hb := Blk.new w #[.int .u64 (wd0 x), .int .u64 (wd1 x), .int .u64 (wd2 x), .int .u64 (wd3 x)] 33
  refine ⟨fun i hi => ?_, hb.lt, ws_wd x, Nat.le_refl 4⟩
  rw [hb.cell]
  match i, hi with
  | 0, _ => rfl
  | 1, _ => rfl
  | 2, _ => rfl
  | 3, _ => rfl

set_option maxRecDepth 100000 in
set_option maxHeartbeats 1000000 in
theorem Read_b (x : Int) (s : Bool) (w : World) (hx : ng x = s) :
    Calls Try.prog 24 #[wI x] w (GivesBig w (sg x) 18) := by
  have HX := Lib.hid hx
  have hge : decide (9223372036854775808 ≤ wd3 x) = s := (ng_ge x).trans hx
  clear hx
  go_enter Try.func24, Try.ntmps24
  go_wp2_with fail
  refine calls_w ?_
  intro W hW
  have kx : Blk W w.heap.size (wC x) 34 := by rw [hW]; exact ((Blk.new _ _ _).alloc _).alloc _
  have k0 : Blk W (w.heap.size + 1) #[.bool false, .slice none 0 0] 28 := by rw [hW]; exact (Blk.new1 _ _ _ _).alloc _
  have hws : Ws W (w.heap.size + 1 + 1) [wd0 x, wd1 x, wd2 x, wd3 x] := by
    rw [hW]
    have := ws_new ((w.alloc (.cells #[.int .u64 (wd0 x), .int .u64 (wd1 x), .int .u64 (wd2 x), .int .u64 (wd3 x)] 34)).alloc (.cells #[.bool false, .slice none 0 0] 28)) x
    simpa using this
  have hb0 : Below w.heap.size w W := by rw [hW]; exact below_a3 _ _ _ _
  clear hW
  have T := Words_any (w.heap.size + 1 + 1) 4 4 _ W hws rfl
  rw [uval_wd] at T
  refine T.mono ?_
  clear T hws
  rintro e w2 ⟨v2, rfl, hbig, hn⟩
  have hf := hbig.fit (k := 18) ⟨by have := p18; unfold b256; omega, by have := p18; unfold b256; omega⟩
  have HBG := Lib.hid hf
  have hvv := hbig.shape
  clear hbig hf
  obtain ⟨n3, a3, q3, c3, rfl⟩ := hvv
  have kx2 : Blk w2 w.heap.size (wC x) 34 := kx.of hn
  have k2 := k0.of hn
  have hb2 := hb0.trans (hn.mono hb0.size)
  have cx : w2.cell? ⟨w.heap.size, 3, none⟩ = some (.int .u64 (wd3 x)) := kx2.cell 3
  have lx := Blk.lt kx2
  have d0 := k2.cell 0
  have d1 := k2.cell 1
  have f0 := k2.free 0
  have f1 := k2.free 1
  simp only [List.getElem?_toArray, List.getElem?_cons_zero, List.getElem?_cons_succ] at d0 d1
  have l2 := k2.lt
  have K2 := Lib.hid k2
  clear hn kx k0 k2 hb0 kx2
  cases s
  · go_wp2
    simp [bodyPost, results, Try.results24, go_sem, d0, d1, l2]
    refine ⟨_, rfl, ?_, (set2_below hb2 (Nat.le_succ _) _ _).alloc (by rw [size_set, size_set]; exact hb2.size) _⟩
    rw [← sg_pos HX.out]
    exact (HBG.out.set2 d0 (.bool n3) (.slice a3 q3 c3)).of ((Below.refl _ _).alloc (Nat.le_refl _) _)
  · clear d0 d1 f0 f1
    go_wp2_with fail
    refine name_world ?_
    intro W3 hW3
    have kb : Blk W3 w2.heap.size #[.bool n3, .slice a3 q3 c3] 28 := by rw [hW3]; exact Blk.new _ _ _
    have h23 : Below w2.heap.size w2 W3 := by rw [hW3]; exact below_a1 _ _
    clear hW3
    have d0 := kb.cell 0
    have d1 := kb.cell 1
    simp only [List.getElem?_toArray, List.getElem?_cons_zero, List.getElem?_cons_succ] at d0 d1
    have l1 := kb.lt
    have hb3 := hb2.trans (h23.mono hb2.size)
    have HB1 := Lib.hid (HBG.out.of h23)
    have K3 := Lib.hid (K2.out.of h23)
    clear cx lx hge kb l2 K2 h23 HBG hb2
    obtain ⟨W, rfl⟩ : ∃ W, W = W3 := ⟨_, rfl⟩
    refine wp_region_up W.heap.size 2 [(true, 0), (false, 1)] (by kernel_rfl) (by kernel_rfl) (fun _ _ d _ _ h => by cases d <;> exact h) ?_
    have hb : Below W.heap.size W W.drew := (Below.refl _ _).drew
    refine wpS_takeL rfl rfl ?_
    go_big_quiet_step (rfl)
    refine wpQuiet_nil ?_
    refine wpS_doL rfl ?_
    intro K hK
    go_wp2_with ((go_at_call 90; refine (Power_any 256 _ (Nat.le_refl _)).mono ?_; rintro e w4 ⟨vm, rfl, hbm, hn⟩; have HM := Lib.hid hbm; have hvm := hbm.shape; clear hbm; obtain ⟨n4, a4, q4, e4, rfl⟩ := hvm))
    replace hb := hb.trans (hn.mono hb.size)
    refine hK.out _ _ (up_iff.2 hb) ?_
    clear hK K
    clear hn
    refine wpS_nil ?_
    simp only [List.drop_succ_cons, List.drop_zero]
    have hb4 : Below w.heap.size w w4 := hb3.trans (hb.mono hb3.size)
    have k4 := K3.out.of hb
    have HB2 := Lib.hid (HB1.out.of hb)
    clear d0 d1 l1 K3 hb hb3 HB1
    go_wp2_with fail
    refine (bigSub_any _ _ (x % b256) (2 ^ 256) 18 _ HB2.out HM.out (by decide)).mono ?_
    rintro e w5 ⟨v5, rfl, hbig, hn⟩
    rw [p256, sg_neg HX.out] at hbig
    have hf := hbig.fit (k := 18) (sg_p18 x)
    have HBG := Lib.hid hf
    have hvv := hbig.shape
    clear hbig hf
    obtain ⟨n5, a5, q5, c5, rfl⟩ := hvv
    have k5 := k4.of hn
    have d0 := k5.cell 0
    have d1 := k5.cell 1
    have f0 := k5.free 0
    have f1 := k5.free 1
    simp only [List.getElem?_toArray, List.getElem?_cons_zero, List.getElem?_cons_succ] at d0 d1
    have hb5 := hb4.trans (hn.mono hb4.size)
    clear hn k4 k5 hb4 HB2 HM
    go_wp2
    simp [bodyPost, results, Try.results24, go_sem, d0, d1]
    exact ⟨_, rfl, HBG.out.set2 d0 (.bool n5) (.slice a5 q5 c5), set2_below hb5 (Nat.le_succ _) _ _⟩
theorem Read_any (x : Int) (w : World) : Calls Try.prog 24 #[wI x] w (GivesBig w (sg x) 18) := Read_b x _ w rfl
end Go.Proofs.Ytlcbomjdbdgbmaa
