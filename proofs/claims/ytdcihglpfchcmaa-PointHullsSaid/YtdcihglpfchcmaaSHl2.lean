/- My texts Bs5, Bs6, Bs7, Bs8, joined: what the last one needs of them. Conditions: as each lemma says. -/
import Derived.Test.YtdcihglpfchcmaaSHl1
import Derived.KernelRfl
import Derived.StillTail
import Derived.OrdersHeld
import Derived.Deep.Quiet
import Derived.Below
import Derived.WalkKit
import Derived.Test.YtdcihglpfchcmaaProg
import Derived.WalkSpells
import Derived.StillTactics
import Derived.Laws.Pointers
import Derived.Deep.RegionHeld3
import Derived.RowKit3
import Derived.Deep.QuietTactic
import Derived.BigQuiet
import Derived.BigRegion
import Derived.Lib.Hide
import Derived.WalkSmall
import Derived.Laws.BitsAllLaws
import Derived.IntWalk
import Derived.Deep.OwnRows
import Derived.Deep.LoopGhost
import Derived.Shelf.Bits.Mul64
import Derived.ProofKit
import Derived.OpenShut
import Derived.ShutString
import Derived.ChangeOld
import Derived.Lib.SmallJoins
import Derived.Laws.IdiomArrays
import Derived.Laws.CopyOwn
import Derived.Laws.AppendOwn
import Derived.Deep.DeepAppendRoom
import Derived.Lib.AppendZerosOnto
import Derived.Lib.Overlaps
import Derived.Deep.RegionLaw
import Derived.Shelf.SlSortCmp.WholeK
import Derived.Shelf.SlicesQ.Reverse
import Derived.Sort.LoopGhostIn
import Derived.RangeFuncNested
import Derived.RangeFuncBound
import Derived.RangeFuncCalls
import Derived.RangeFuncLeaves
import Derived.OwnWalk
import Derived.OwnWalkIn
import Derived.TacticsInMore
import Derived.LoopNIn
import Derived.LoopIn
import Derived.Deep.DeepFit
import Derived.Deep.DeepCutAuto
import Derived.Shelf.Abstract
import Derived.Shelf.RegionOpen
import Derived.Maps.OwnIn
import Derived.Deep.SlicePairs
namespace Go.Proofs.Ytdcihglpfchcmaa
open Go.RowKit

theorem Big.shape {w : World} {v : Value} {n : Int} {L : Nat} (h : Big w v n L) : ∃ neg a l c, v = .agg #[.bool neg, .slice a l c] := by
  obtain ⟨neg, ao, b, cap, ds, h1, _⟩ := h
  exact ⟨neg, ao, ds.length, cap, h1⟩
theorem Sl.set2 {w : World} {ao : Option Addr} {b3 cap b : Nat} {ds : List Int} (h : Sl w ao b3 cap ds) {q : Bool} (hd : w.cell? ⟨b, 0, none⟩ = some (.bool q)) (x y : Value) :
    Sl ((w.setCell ⟨b, 0, none⟩ x).setCell ⟨b, 1, none⟩ y) ao b3 cap ds := by
  have hne : 0 < ds.length → b3 ≠ b := by
    intro h0 e
    have := h.cell 0 h0
    rw [e, hd] at this
    simp at this
  refine ⟨h.ptr, h.nil, h.capl, h.len, h.capb, fun i hi => ?_, fun h0 => ?_⟩
  · have hb := hne (by omega)
    have e : (((w.setCell ⟨b, 0, none⟩ x).setCell ⟨b, 1, none⟩ y).heap)[b3]? = w.heap[b3]? := by
      rw [Below.heap_setCell _ _ _ _ hb, Below.heap_setCell _ _ _ _ hb]
    rw [World.cell?_of_block (w := w) (a := ⟨b3, i, none⟩) e]
    exact h.cell i hi
  · rw [size_set, size_set]; exact h.blk h0
theorem Big.set2 {w : World} {v : Value} {n : Int} {L b : Nat} (h : Big w v n L) {q : Bool} (hd : w.cell? ⟨b, 0, none⟩ = some (.bool q)) (x y : Value) : Big ((w.setCell ⟨b, 0, none⟩ x).setCell ⟨b, 1, none⟩ y) v n L := by
  obtain ⟨neg, ao, b3, cap, ds, h1, h2, h3⟩ := h
  exact ⟨neg, ao, b3, cap, ds, h1, h2.set2 hd x y, h3⟩
theorem below_a1 (w : World) (o1 : Obj) : Below w.heap.size w (w.alloc o1) := (Below.refl _ _).alloc (Nat.le_refl _) _
theorem below_a2 (w : World) (o1 o2 : Obj) : Below w.heap.size w ((w.alloc o1).alloc o2) := (below_a1 w o1).alloc (by simp) _
theorem below_a3 (w : World) (o1 o2 o3 : Obj) : Below w.heap.size w (((w.alloc o1).alloc o2).alloc o3) := (below_a2 w o1 o2).alloc (by simp; omega) _
theorem set2_below {w W : World} {B b : Nat} (h : Below B W w) (hB : B ≤ b) (x y : Value) : Below B W ((w.setCell ⟨b, 0, none⟩ x).setCell ⟨b, 1, none⟩ y) := (h.setCell hB x).setCell hB y

set_option maxRecDepth 100000 in
set_option maxHeartbeats 600000 in
theorem bigAdd_same (neg : Bool) (ao bo : Option Addr) (b b' cap cap' : Nat) (xs ys : List Int) (w : World) (ha : Sl w ao b cap xs) (hb : Sl w bo b' cap' ys) (da : DigOk xs) (db : DigOk ys)
    (hl1 : xs.length < 268435456) (hl2 : ys.length < 268435456) :
    Calls Try.prog 53 #[.agg #[.bool neg, .slice ao xs.length cap], .agg #[.bool neg, .slice bo ys.length cap']] w
      (GivesBig w (bif neg then -(dval xs + dval ys) else dval xs + dval ys) (max xs.length ys.length + 1)) := by
  have HA := Lib.hid ha
  have HB := Lib.hid hb
  have D := Lib.hid (And.intro da db)
  have HL := Lib.hid (And.intro hl1 hl2)
  clear ha hb da db hl1 hl2
  go_enter Try.func53, Try.ntmps53
  go_wp2_with fail
  refine name_world ?_
  intro W hW
  have k0 : Blk W w.heap.size #[.bool neg, .slice ao xs.length cap] 50 := by rw [hW]; exact ((Blk.new _ _ _).alloc _).alloc _
  have k1 : Blk W (w.heap.size + 1) #[.bool neg, .slice bo ys.length cap'] 50 := by rw [hW]; exact (Blk.new1 _ _ _ _).alloc _
  have k2 : Blk W (w.heap.size + 1 + 1) #[.bool false, .slice none 0 0] 50 := by rw [hW]; exact Blk.new2 _ _ _ _ _
  have hb0 : Below w.heap.size w W := by rw [hW]; exact below_a3 _ _ _ _
  clear hW
  have c0 := k0.cell 0
  have c1 := k0.cell 1
  have d0 := k1.cell 0
  have d1 := k1.cell 1
  simp only [List.getElem?_toArray, List.getElem?_cons_zero, List.getElem?_cons_succ] at c0 c1 d0 d1
  have l0 := k0.lt
  have l1 := k1.lt
  have K2 := Lib.hid k2
  clear k0 k1 k2
  refine wp_region_up W.heap.size 7 [(true, 0), (true, 1), (true, 2), (true, 3), (true, 4), (true, 5), (false, 6)] (by kernel_rfl) (by kernel_rfl) (fun _ _ d _ _ h => by cases d <;> exact h) ?_
  have hb : Below W.heap.size W W.drew := (Below.refl _ _).drew
  iterate 6
    refine wpS_takeL rfl rfl ?_
    go_big_quiet_step (rfl)
    refine wpQuiet_nil ?_
  refine wpS_doL rfl ?_
  intro K hK
  go_wp2_with ((go_at_call 71; refine (more_any ao bo b b' cap cap' xs ys _ (HA.out.of (hb0.trans (hb.mono hb0.size))) (HB.out.of (hb0.trans (hb.mono hb0.size))) (by have := HL.out; omega) (by have := HL.out; omega) D.out.1 D.out.2).mono ?_; rintro e w2 ⟨ao2, b2, cap2, ds2, rfl, hsl2, hdg2, hv2, hl2, hn⟩; have SL := Lib.hid hsl2; have DG := Lib.hid hdg2; have HV := Lib.hid hv2; have HL2 := Lib.hid hl2; clear hsl2 hdg2 hv2 hl2))
  replace hb := hb.trans (hn.mono hb.size)
  refine hK.out _ _ (up_iff.2 hb) ?_
  clear hK K
  clear hn
  refine wpS_nil ?_
  simp only [List.drop_succ_cons, List.drop_zero]
  have hb1 : Below w.heap.size w w2 := hb0.trans (hb.mono hb0.size)
  have k2 : Blk w2 (w.heap.size + 1 + 1) #[.bool false, .slice none 0 0] 50 := K2.out.of hb
  clear c0 c1 d0 d1 l0 l1 K2 hb hb0
  go_wp2_with fail
  refine (trim_any neg ao2 b2 cap2 ds2 _ SL.out DG.out (max xs.length ys.length + 1) (by rw [HL2.out]; exact Nat.le_refl _)).mono ?_
  rintro e w3 ⟨v3, rfl, hbig, hn⟩
  rw [HV.out] at hbig
  have HBG := Lib.hid hbig
  have hvv := hbig.shape
  clear hbig
  obtain ⟨n3, a3, q3, c3, rfl⟩ := hvv
  replace k2 : Blk w3 _ _ _ := k2.of hn
  have d0 := k2.cell 0
  have d1 := k2.cell 1
  have f0 := k2.free 0
  have f1 := k2.free 1
  simp only [List.getElem?_toArray, List.getElem?_cons_zero, List.getElem?_cons_succ] at d0 d1
  have hb2 := hb1.trans (hn.mono hb1.size)
  clear hn k2 hb1
  go_wp2
  simp [bodyPost, results, Try.results53, go_sem, d0, d1]
  refine ⟨_, rfl, ?_, set2_below hb2 ?_ _ _⟩
  · have := HBG.out.set2 d0 (.bool n3) (.slice a3 q3 c3)
    exact this
  · omega
set_option maxRecDepth 100000 in
set_option maxHeartbeats 600000 in
theorem bigAdd_ge (neg : Bool) (ao bo : Option Addr) (b b' cap cap' : Nat) (xs ys : List Int) (w : World) (ha : Sl w ao b cap xs) (hb : Sl w bo b' cap' ys) (da : DigOk xs) (db : DigOk ys) (na : Norm xs) (nb : Norm ys) (hcmp : dval ys ≤ dval xs)
    (hl1 : xs.length < 268435456) (hl2 : ys.length < 268435456) :
    Calls Try.prog 53 #[.agg #[.bool neg, .slice ao xs.length cap], .agg #[.bool (!neg), .slice bo ys.length cap']] w
      (GivesBig w (bif neg then -(dval xs - dval ys) else dval xs - dval ys) xs.length) := by
  have HC := Lib.hid hcmp
  have NN := Lib.hid (And.intro na nb)
  have HA := Lib.hid ha
  have HB := Lib.hid hb
  have D := Lib.hid (And.intro da db)
  have HL := Lib.hid (And.intro hl1 hl2)
  have hle : ys.length ≤ xs.length := by
    rcases Nat.lt_or_ge xs.length ys.length with h | h
    · have := len_lt da db nb h; omega
    · exact h
  have HLE := Lib.hid hle
  clear hle
  clear ha hb da db hl1 hl2 hcmp na nb
  go_enter Try.func53, Try.ntmps53
  cases neg
  · go_wp2_with fail
    refine calls_w ?_
    intro W hW
    have k0 : Blk W w.heap.size #[.bool false, .slice ao xs.length cap] 50 := by rw [hW]; exact ((Blk.new _ _ _).alloc _).alloc _
    have k1 : Blk W (w.heap.size + 1) #[.bool true, .slice bo ys.length cap'] 50 := by rw [hW]; exact (Blk.new1 _ _ _ _).alloc _
    have k2 : Blk W (w.heap.size + 1 + 1) #[.bool false, .slice none 0 0] 50 := by rw [hW]; exact Blk.new2 _ _ _ _ _
    have hb0 : Below w.heap.size w W := by rw [hW]; exact below_a3 _ _ _ _
    clear hW
    refine (sizes_any ao bo b b' cap cap' xs ys _ (HA.out.of hb0) (HB.out.of hb0) D.out.1 D.out.2 NN.out.1 NN.out.2).mono ?_
    rintro e w1 ⟨rfl, hn⟩
    replace k0 : Blk w1 _ _ _ := k0.of hn
    replace k1 : Blk w1 _ _ _ := k1.of hn
    replace k2 : Blk w1 _ _ _ := k2.of hn
    replace hb0 := hb0.trans (hn.mono hb0.size)
    clear hn
    have c0 := k0.cell 0
    have c1 := k0.cell 1
    have d0 := k1.cell 0
    have d1 := k1.cell 1
    simp only [List.getElem?_toArray, List.getElem?_cons_zero, List.getElem?_cons_succ] at c0 c1 d0 d1
    have l0 := k0.lt
    have l1 := k1.lt
    have K2 := Lib.hid k2
    clear k0 k1 k2
    have hsg : decide (0 ≤ cmpI (dval xs) (dval ys)) = true := by
      have := HC.out
      rcases Int.lt_or_eq_of_le this with h | h
      · rw [cmpI_gt h]; rfl
      · rw [h, cmpI_eq]; rfl
    go_wp2_with fail
    refine name_world ?_
    intro W hW
    subst hW
    refine wp_region_up W.heap.size 7 [(true, 0), (true, 1), (true, 2), (true, 3), (true, 4), (true, 5), (false, 6)] (by kernel_rfl) (by kernel_rfl) (fun _ _ d _ _ h => by cases d <;> exact h) ?_
    have hb : Below W.heap.size W W.drew := (Below.refl _ _).drew
    iterate 6
      refine wpS_takeL rfl rfl ?_
      go_big_quiet_step (rfl)
      refine wpQuiet_nil ?_
    refine wpS_doL rfl ?_
    intro K hK
    go_wp2_with ((go_at_call 72; refine (less_any ao bo b b' cap cap' xs ys _ (HA.out.of (hb0.trans (hb.mono hb0.size))) (HB.out.of (hb0.trans (hb.mono hb0.size))) (by have := HL.out; omega) D.out.1 D.out.2 HLE.out HC.out).mono ?_; rintro e w2 ⟨ao2, b2, cap2, ds2, rfl, hsl2, hdg2, hv2, hl2, hn⟩; have SL := Lib.hid hsl2; have DG := Lib.hid hdg2; have HV := Lib.hid hv2; have HL2 := Lib.hid hl2; clear hsl2 hdg2 hv2 hl2))
    replace hb := hb.trans (hn.mono hb.size)
    refine hK.out _ _ (up_iff.2 hb) ?_
    clear hK K
    clear hn
    refine wpS_nil ?_
    simp only [List.drop_succ_cons, List.drop_zero]
    have hb1 : Below w.heap.size w w2 := hb0.trans (hb.mono hb0.size)
    have k2 : Blk w2 (w.heap.size + 1 + 1) #[.bool false, .slice none 0 0] 50 := K2.out.of hb
    clear c0 c1 d0 d1 l0 l1 K2 hb hb0
    go_wp2_with fail
    refine (trim_any _ ao2 b2 cap2 ds2 _ SL.out DG.out xs.length (by rw [HL2.out]; exact Nat.le_refl _)).mono ?_
    rintro e w3 ⟨v3, rfl, hbig, hn⟩
    rw [HV.out] at hbig
    have HBG := Lib.hid hbig
    have hvv := hbig.shape
    clear hbig
    obtain ⟨n3, a3, q3, c3, rfl⟩ := hvv
    replace k2 : Blk w3 _ _ _ := k2.of hn
    have d0 := k2.cell 0
    have d1 := k2.cell 1
    have f0 := k2.free 0
    have f1 := k2.free 1
    simp only [List.getElem?_toArray, List.getElem?_cons_zero, List.getElem?_cons_succ] at d0 d1
    have hb2 := hb1.trans (hn.mono hb1.size)
    clear hn k2 hb1
    go_wp2
    simp [bodyPost, results, Try.results53, go_sem, d0, d1]
    refine ⟨_, rfl, ?_, set2_below hb2 ?_ _ _⟩
    · have := HBG.out.set2 d0 (.bool n3) (.slice a3 q3 c3)
      exact this
    · omega
  · go_wp2_with fail
    refine calls_w ?_
    intro W hW
    have k0 : Blk W w.heap.size #[.bool true, .slice ao xs.length cap] 50 := by rw [hW]; exact ((Blk.new _ _ _).alloc _).alloc _
    have k1 : Blk W (w.heap.size + 1) #[.bool false, .slice bo ys.length cap'] 50 := by rw [hW]; exact (Blk.new1 _ _ _ _).alloc _
    have k2 : Blk W (w.heap.size + 1 + 1) #[.bool false, .slice none 0 0] 50 := by rw [hW]; exact Blk.new2 _ _ _ _ _
    have hb0 : Below w.heap.size w W := by rw [hW]; exact below_a3 _ _ _ _
    clear hW
    refine (sizes_any ao bo b b' cap cap' xs ys _ (HA.out.of hb0) (HB.out.of hb0) D.out.1 D.out.2 NN.out.1 NN.out.2).mono ?_
    rintro e w1 ⟨rfl, hn⟩
    replace k0 : Blk w1 _ _ _ := k0.of hn
    replace k1 : Blk w1 _ _ _ := k1.of hn
    replace k2 : Blk w1 _ _ _ := k2.of hn
    replace hb0 := hb0.trans (hn.mono hb0.size)
    clear hn
    have c0 := k0.cell 0
    have c1 := k0.cell 1
    have d0 := k1.cell 0
    have d1 := k1.cell 1
    simp only [List.getElem?_toArray, List.getElem?_cons_zero, List.getElem?_cons_succ] at c0 c1 d0 d1
    have l0 := k0.lt
    have l1 := k1.lt
    have K2 := Lib.hid k2
    clear k0 k1 k2
    have hsg : decide (0 ≤ cmpI (dval xs) (dval ys)) = true := by
      have := HC.out
      rcases Int.lt_or_eq_of_le this with h | h
      · rw [cmpI_gt h]; rfl
      · rw [h, cmpI_eq]; rfl
    go_wp2_with fail
    refine name_world ?_
    intro W hW
    subst hW
    refine wp_region_up W.heap.size 7 [(true, 0), (true, 1), (true, 2), (true, 3), (true, 4), (true, 5), (false, 6)] (by kernel_rfl) (by kernel_rfl) (fun _ _ d _ _ h => by cases d <;> exact h) ?_
    have hb : Below W.heap.size W W.drew := (Below.refl _ _).drew
    iterate 6
      refine wpS_takeL rfl rfl ?_
      go_big_quiet_step (rfl)
      refine wpQuiet_nil ?_
    refine wpS_doL rfl ?_
    intro K hK
    go_wp2_with ((go_at_call 72; refine (less_any ao bo b b' cap cap' xs ys _ (HA.out.of (hb0.trans (hb.mono hb0.size))) (HB.out.of (hb0.trans (hb.mono hb0.size))) (by have := HL.out; omega) D.out.1 D.out.2 HLE.out HC.out).mono ?_; rintro e w2 ⟨ao2, b2, cap2, ds2, rfl, hsl2, hdg2, hv2, hl2, hn⟩; have SL := Lib.hid hsl2; have DG := Lib.hid hdg2; have HV := Lib.hid hv2; have HL2 := Lib.hid hl2; clear hsl2 hdg2 hv2 hl2))
    replace hb := hb.trans (hn.mono hb.size)
    refine hK.out _ _ (up_iff.2 hb) ?_
    clear hK K
    clear hn
    refine wpS_nil ?_
    simp only [List.drop_succ_cons, List.drop_zero]
    have hb1 : Below w.heap.size w w2 := hb0.trans (hb.mono hb0.size)
    have k2 : Blk w2 (w.heap.size + 1 + 1) #[.bool false, .slice none 0 0] 50 := K2.out.of hb
    clear c0 c1 d0 d1 l0 l1 K2 hb hb0
    go_wp2_with fail
    refine (trim_any _ ao2 b2 cap2 ds2 _ SL.out DG.out xs.length (by rw [HL2.out]; exact Nat.le_refl _)).mono ?_
    rintro e w3 ⟨v3, rfl, hbig, hn⟩
    rw [HV.out] at hbig
    have HBG := Lib.hid hbig
    have hvv := hbig.shape
    clear hbig
    obtain ⟨n3, a3, q3, c3, rfl⟩ := hvv
    replace k2 : Blk w3 _ _ _ := k2.of hn
    have d0 := k2.cell 0
    have d1 := k2.cell 1
    have f0 := k2.free 0
    have f1 := k2.free 1
    simp only [List.getElem?_toArray, List.getElem?_cons_zero, List.getElem?_cons_succ] at d0 d1
    have hb2 := hb1.trans (hn.mono hb1.size)
    clear hn k2 hb1
    go_wp2
    simp [bodyPost, results, Try.results53, go_sem, d0, d1]
    refine ⟨_, rfl, ?_, set2_below hb2 ?_ _ _⟩
    · have := HBG.out.set2 d0 (.bool n3) (.slice a3 q3 c3)
      exact this
    · omega
set_option maxRecDepth 100000 in
set_option maxHeartbeats 600000 in
theorem bigAdd_lt (neg : Bool) (ao bo : Option Addr) (b b' cap cap' : Nat) (xs ys : List Int) (w : World) (ha : Sl w ao b cap xs) (hb : Sl w bo b' cap' ys) (da : DigOk xs) (db : DigOk ys) (na : Norm xs) (nb : Norm ys) (hcmp : dval xs < dval ys)
    (hl1 : xs.length < 268435456) (hl2 : ys.length < 268435456) :
    Calls Try.prog 53 #[.agg #[.bool neg, .slice ao xs.length cap], .agg #[.bool (!neg), .slice bo ys.length cap']] w
      (GivesBig w (bif !neg then -(dval ys - dval xs) else dval ys - dval xs) ys.length) := by
  have HC := Lib.hid hcmp
  have NN := Lib.hid (And.intro na nb)
  have HA := Lib.hid ha
  have HB := Lib.hid hb
  have D := Lib.hid (And.intro da db)
  have HL := Lib.hid (And.intro hl1 hl2)
  have hle : xs.length ≤ ys.length := by
    rcases Nat.lt_or_ge ys.length xs.length with h | h
    · have := len_lt db da na h; omega
    · exact h
  have HLE := Lib.hid hle
  clear hle
  clear ha hb da db hl1 hl2 hcmp na nb
  go_enter Try.func53, Try.ntmps53
  cases neg
  · go_wp2_with fail
    refine calls_w ?_
    intro W hW
    have k0 : Blk W w.heap.size #[.bool false, .slice ao xs.length cap] 50 := by rw [hW]; exact ((Blk.new _ _ _).alloc _).alloc _
    have k1 : Blk W (w.heap.size + 1) #[.bool true, .slice bo ys.length cap'] 50 := by rw [hW]; exact (Blk.new1 _ _ _ _).alloc _
    have k2 : Blk W (w.heap.size + 1 + 1) #[.bool false, .slice none 0 0] 50 := by rw [hW]; exact Blk.new2 _ _ _ _ _
    have hb0 : Below w.heap.size w W := by rw [hW]; exact below_a3 _ _ _ _
    clear hW
    refine (sizes_any ao bo b b' cap cap' xs ys _ (HA.out.of hb0) (HB.out.of hb0) D.out.1 D.out.2 NN.out.1 NN.out.2).mono ?_
    rintro e w1 ⟨rfl, hn⟩
    replace k0 : Blk w1 _ _ _ := k0.of hn
    replace k1 : Blk w1 _ _ _ := k1.of hn
    replace k2 : Blk w1 _ _ _ := k2.of hn
    replace hb0 := hb0.trans (hn.mono hb0.size)
    clear hn
    have c0 := k0.cell 0
    have c1 := k0.cell 1
    have d0 := k1.cell 0
    have d1 := k1.cell 1
    simp only [List.getElem?_toArray, List.getElem?_cons_zero, List.getElem?_cons_succ] at c0 c1 d0 d1
    have l0 := k0.lt
    have l1 := k1.lt
    have K2 := Lib.hid k2
    clear k0 k1 k2
    have hsg : decide (0 ≤ cmpI (dval xs) (dval ys)) = false := by
      have := HC.out
      rw [cmpI_lt this]; rfl
    go_wp2_with fail
    refine name_world ?_
    intro W hW
    subst hW
    refine wp_region_up W.heap.size 7 [(true, 0), (true, 1), (true, 2), (true, 3), (true, 4), (true, 5), (false, 6)] (by kernel_rfl) (by kernel_rfl) (fun _ _ d _ _ h => by cases d <;> exact h) ?_
    have hb : Below W.heap.size W W.drew := (Below.refl _ _).drew
    iterate 6
      refine wpS_takeL rfl rfl ?_
      go_big_quiet_step (rfl)
      refine wpQuiet_nil ?_
    refine wpS_doL rfl ?_
    intro K hK
    go_wp2_with ((go_at_call 72; refine (less_any bo ao b' b cap' cap ys xs _ (HB.out.of (hb0.trans (hb.mono hb0.size))) (HA.out.of (hb0.trans (hb.mono hb0.size))) (by have := HL.out; omega) D.out.2 D.out.1 HLE.out (Int.le_of_lt HC.out)).mono ?_; rintro e w2 ⟨ao2, b2, cap2, ds2, rfl, hsl2, hdg2, hv2, hl2, hn⟩; have SL := Lib.hid hsl2; have DG := Lib.hid hdg2; have HV := Lib.hid hv2; have HL2 := Lib.hid hl2; clear hsl2 hdg2 hv2 hl2))
    replace hb := hb.trans (hn.mono hb.size)
    refine hK.out _ _ (up_iff.2 hb) ?_
    clear hK K
    clear hn
    refine wpS_nil ?_
    simp only [List.drop_succ_cons, List.drop_zero]
    have hb1 : Below w.heap.size w w2 := hb0.trans (hb.mono hb0.size)
    have k2 : Blk w2 (w.heap.size + 1 + 1) #[.bool false, .slice none 0 0] 50 := K2.out.of hb
    clear c0 c1 d0 d1 l0 l1 K2 hb hb0
    go_wp2_with fail
    refine (trim_any _ ao2 b2 cap2 ds2 _ SL.out DG.out ys.length (by rw [HL2.out]; exact Nat.le_refl _)).mono ?_
    rintro e w3 ⟨v3, rfl, hbig, hn⟩
    rw [HV.out] at hbig
    have HBG := Lib.hid hbig
    have hvv := hbig.shape
    clear hbig
    obtain ⟨n3, a3, q3, c3, rfl⟩ := hvv
    replace k2 : Blk w3 _ _ _ := k2.of hn
    have d0 := k2.cell 0
    have d1 := k2.cell 1
    have f0 := k2.free 0
    have f1 := k2.free 1
    simp only [List.getElem?_toArray, List.getElem?_cons_zero, List.getElem?_cons_succ] at d0 d1
    have hb2 := hb1.trans (hn.mono hb1.size)
    clear hn k2 hb1
    go_wp2
    simp [bodyPost, results, Try.results53, go_sem, d0, d1]
    refine ⟨_, rfl, ?_, set2_below hb2 ?_ _ _⟩
    · have := HBG.out.set2 d0 (.bool n3) (.slice a3 q3 c3)
      exact this
    · omega
  · go_wp2_with fail
    refine calls_w ?_
    intro W hW
    have k0 : Blk W w.heap.size #[.bool true, .slice ao xs.length cap] 50 := by rw [hW]; exact ((Blk.new _ _ _).alloc _).alloc _
    have k1 : Blk W (w.heap.size + 1) #[.bool false, .slice bo ys.length cap'] 50 := by rw [hW]; exact (Blk.new1 _ _ _ _).alloc _
    have k2 : Blk W (w.heap.size + 1 + 1) #[.bool false, .slice none 0 0] 50 := by rw [hW]; exact Blk.new2 _ _ _ _ _
    have hb0 : Below w.heap.size w W := by rw [hW]; exact below_a3 _ _ _ _
    clear hW
    refine (sizes_any ao bo b b' cap cap' xs ys _ (HA.out.of hb0) (HB.out.of hb0) D.out.1 D.out.2 NN.out.1 NN.out.2).mono ?_
    rintro e w1 ⟨rfl, hn⟩
    replace k0 : Blk w1 _ _ _ := k0.of hn
    replace k1 : Blk w1 _ _ _ := k1.of hn
    replace k2 : Blk w1 _ _ _ := k2.of hn
    replace hb0 := hb0.trans (hn.mono hb0.size)
    clear hn
    have c0 := k0.cell 0
    have c1 := k0.cell 1
    have d0 := k1.cell 0
    have d1 := k1.cell 1
    simp only [List.getElem?_toArray, List.getElem?_cons_zero, List.getElem?_cons_succ] at c0 c1 d0 d1
    have l0 := k0.lt
    have l1 := k1.lt
    have K2 := Lib.hid k2
    clear k0 k1 k2
    have hsg : decide (0 ≤ cmpI (dval xs) (dval ys)) = false := by
      have := HC.out
      rw [cmpI_lt this]; rfl
    go_wp2_with fail
    refine name_world ?_
    intro W hW
    subst hW
    refine wp_region_up W.heap.size 7 [(true, 0), (true, 1), (true, 2), (true, 3), (true, 4), (true, 5), (false, 6)] (by kernel_rfl) (by kernel_rfl) (fun _ _ d _ _ h => by cases d <;> exact h) ?_
    have hb : Below W.heap.size W W.drew := (Below.refl _ _).drew
    iterate 6
      refine wpS_takeL rfl rfl ?_
      go_big_quiet_step (rfl)
      refine wpQuiet_nil ?_
    refine wpS_doL rfl ?_
    intro K hK
    go_wp2_with ((go_at_call 72; refine (less_any bo ao b' b cap' cap ys xs _ (HB.out.of (hb0.trans (hb.mono hb0.size))) (HA.out.of (hb0.trans (hb.mono hb0.size))) (by have := HL.out; omega) D.out.2 D.out.1 HLE.out (Int.le_of_lt HC.out)).mono ?_; rintro e w2 ⟨ao2, b2, cap2, ds2, rfl, hsl2, hdg2, hv2, hl2, hn⟩; have SL := Lib.hid hsl2; have DG := Lib.hid hdg2; have HV := Lib.hid hv2; have HL2 := Lib.hid hl2; clear hsl2 hdg2 hv2 hl2))
    replace hb := hb.trans (hn.mono hb.size)
    refine hK.out _ _ (up_iff.2 hb) ?_
    clear hK K
    clear hn
    refine wpS_nil ?_
    simp only [List.drop_succ_cons, List.drop_zero]
    have hb1 : Below w.heap.size w w2 := hb0.trans (hb.mono hb0.size)
    have k2 : Blk w2 (w.heap.size + 1 + 1) #[.bool false, .slice none 0 0] 50 := K2.out.of hb
    clear c0 c1 d0 d1 l0 l1 K2 hb hb0
    go_wp2_with fail
    refine (trim_any _ ao2 b2 cap2 ds2 _ SL.out DG.out ys.length (by rw [HL2.out]; exact Nat.le_refl _)).mono ?_
    rintro e w3 ⟨v3, rfl, hbig, hn⟩
    rw [HV.out] at hbig
    have HBG := Lib.hid hbig
    have hvv := hbig.shape
    clear hbig
    obtain ⟨n3, a3, q3, c3, rfl⟩ := hvv
    replace k2 : Blk w3 _ _ _ := k2.of hn
    have d0 := k2.cell 0
    have d1 := k2.cell 1
    have f0 := k2.free 0
    have f1 := k2.free 1
    simp only [List.getElem?_toArray, List.getElem?_cons_zero, List.getElem?_cons_succ] at d0 d1
    have hb2 := hb1.trans (hn.mono hb1.size)
    clear hn k2 hb1
    go_wp2
    simp [bodyPost, results, Try.results53, go_sem, d0, d1]
    refine ⟨_, rfl, ?_, set2_below hb2 ?_ _ _⟩
    · have := HBG.out.set2 d0 (.bool n3) (.slice a3 q3 c3)
      exact this
    · omega
end Go.Proofs.Ytdcihglpfchcmaa
namespace Go.Proofs.Ytdcihglpfchcmaa
open Go.RowKit
theorem GivesBig.mono {w : World} {n : Int} {L L' : Nat} (hl : L ≤ L') {e : Ending} {w' : World} (h : GivesBig w n L e w') : GivesBig w n L' e w' := by
  obtain ⟨v, h1, h2, h3⟩ := h
  exact ⟨v, h1, h2.mono hl, h3⟩
theorem bigAdd_any (v v' : Value) (n m : Int) (L : Nat) (w : World) (h : Big w v n L) (h' : Big w v' m L) (hL : L < 268435456) :
    Calls Try.prog 53 #[v, v'] w (GivesBig w (n + m) (L + 1)) := by
  obtain ⟨neg, ao, b, cap, ds, rfl, hs, hd, hn, hz, hv, hl⟩ := h
  obtain ⟨neg', ao', b', cap', ds', rfl, hs', hd', hn', hz', hv', hl'⟩ := h'
  by_cases hq : neg' = neg
  · subst hq
    refine (bigAdd_same neg' ao ao' b b' cap cap' ds ds' w hs hs' hd hd' (by omega) (by omega)).mono ?_
    intro e w2 hg
    have hx : n + m = (bif neg' then -(dval ds + dval ds') else dval ds + dval ds') := by
      rw [hv, hv']; cases neg' <;> simp <;> omega
    rw [hx]
    exact hg.mono (by omega)
  · have hq' : neg' = !neg := by cases neg <;> cases neg' <;> simp_all
    subst hq'
    by_cases hc : dval ds' ≤ dval ds
    · refine (bigAdd_ge neg ao ao' b b' cap cap' ds ds' w hs hs' hd hd' hn hn' hc (by omega) (by omega)).mono ?_
      intro e w2 hg
      have hx : n + m = (bif neg then -(dval ds - dval ds') else dval ds - dval ds') := by
        rw [hv, hv']; cases neg <;> simp <;> omega
      rw [hx]
      exact hg.mono (by omega)
    · refine (bigAdd_lt neg ao ao' b b' cap cap' ds ds' w hs hs' hd hd' hn hn' (by omega) (by omega) (by omega)).mono ?_
      intro e w2 hg
      have hx : n + m = (bif !neg then -(dval ds' - dval ds) else dval ds' - dval ds) := by
        rw [hv, hv']; cases neg <;> simp <;> omega
      rw [hx]
      exact hg.mono (by omega)
end Go.Proofs.Ytdcihglpfchcmaa
namespace Go.Proofs.Ytdcihglpfchcmaa
open Go.RowKit
set_option maxRecDepth 100000 in
set_option maxHeartbeats 600000 in
theorem bigSub_any (v v' : Value) (n m : Int) (L : Nat) (w : World) (h : Big w v n L) (h' : Big w v' m L) (hL : L < 268435456) :
    Calls Try.prog 38 #[v, v'] w (GivesBig w (n - m) (L + 1)) := by
  have hv := h.shape
  have hv' := h'.shape
  obtain ⟨n1, a1, q1, e1, rfl⟩ := hv
  obtain ⟨n2, a2, q2, e2, rfl⟩ := hv'
  have HA := Lib.hid h
  have HB := Lib.hid h'
  have HL := Lib.hid hL
  clear h h' hL
  go_enter Try.func38, Try.ntmps38
  go_wp2_with fail
  refine name_world ?_
  intro W hW
  have k0 : Blk W w.heap.size #[.bool n1, .slice a1 q1 e1] 50 := by rw [hW]; exact ((Blk.new _ _ _).alloc _).alloc _
  have k1 : Blk W (w.heap.size + 1) #[.bool n2, .slice a2 q2 e2] 50 := by rw [hW]; exact (Blk.new1 _ _ _ _).alloc _
  have k2 : Blk W (w.heap.size + 1 + 1) #[.bool false, .slice none 0 0] 50 := by rw [hW]; exact Blk.new2 _ _ _ _ _
  have hb0 : Below w.heap.size w W := by rw [hW]; exact below_a3 _ _ _ _
  clear hW
  have c0 := k0.cell 0
  have c1 := k0.cell 1
  have d0 := k1.cell 0
  have d1 := k1.cell 1
  simp only [List.getElem?_toArray, List.getElem?_cons_zero, List.getElem?_cons_succ] at c0 c1 d0 d1
  have l0 := k0.lt
  have l1 := k1.lt
  have K2 := Lib.hid k2
  clear k0 k1 k2
  refine wp_region_up W.heap.size 3 [(true, 0), (true, 1), (false, 2)] (by kernel_rfl) (by kernel_rfl) (fun _ _ d _ _ h => by cases d <;> exact h) ?_
  have hb : Below W.heap.size W W.drew := (Below.refl _ _).drew
  iterate 2
    refine wpS_takeL rfl rfl ?_
    go_big_quiet_step (rfl)
    refine wpQuiet_nil ?_
  refine wpS_doL rfl ?_
  intro K hK
  go_wp2_with ((go_at_call 52; refine (Minus_any _ m L _ (HB.out.of (hb0.trans (hb.mono hb0.size)))).mono ?_; rintro e w2 ⟨vm, rfl, hbm, hn⟩; have HM := Lib.hid hbm; have hvm := hbm.shape; clear hbm; obtain ⟨n3, a3, q3, e3, rfl⟩ := hvm))
  replace hb := hb.trans (hn.mono hb.size)
  refine hK.out _ _ (up_iff.2 hb) ?_
  clear hK K
  clear hn
  refine wpS_nil ?_
  simp only [List.drop_succ_cons, List.drop_zero]
  have hb1 : Below w.heap.size w w2 := hb0.trans (hb.mono hb0.size)
  have k2 : Blk w2 (w.heap.size + 1 + 1) #[.bool false, .slice none 0 0] 50 := K2.out.of hb
  clear c0 c1 d0 d1 l0 l1 K2 hb hb0
  go_wp2_with ((go_at_call 53; refine (bigAdd_any _ _ n (-m) L _ (HA.out.of hb1) HM.out HL.out).mono ?_; rintro e w3 ⟨v3, rfl, hbig, hn⟩; have HBG := Lib.hid hbig; have hvv := hbig.shape; clear hbig; obtain ⟨n4, a4, q4, e4, rfl⟩ := hvv; replace k2 : Blk w3 _ _ _ := k2.of hn; have d0 := k2.cell 0; have d1 := k2.cell 1; have f0 := k2.free 0; have f1 := k2.free 1; simp only [List.getElem?_toArray, List.getElem?_cons_zero, List.getElem?_cons_succ] at d0 d1; have hb2 := hb1.trans (hn.mono hb1.size); clear hn k2 hb1))
  simp [bodyPost, results, Try.results38, go_sem, d0, d1]
  refine ⟨_, rfl, ?_, set2_below hb2 ?_ _ _⟩
  · have := HBG.out.set2 d0 (.bool n4) (.slice a4 q4 e4)
    rw [show n + -m = n - m from by omega] at this
    exact this
  · omega
end Go.Proofs.Ytdcihglpfchcmaa
namespace Go.Proofs.Ytdcihglpfchcmaa

/-- the number of some words -/
def uval : List Int → Int
  | [] => 0
  | d :: t => d + 18446744073709551616 * uval t
def WordsOk (ws : List Int) : Prop := ∀ d ∈ ws, Wd d
theorem uval_bd {ws : List Int} (h : WordsOk ws) : 0 ≤ uval ws ∧ uval ws < 2 ^ (64 * ws.length) := by
  induction ws with
  | nil => simp [uval]
  | cons d t ih =>
    have h1 := ih fun x hx => h x (List.mem_cons_of_mem _ hx)
    obtain ⟨h2, h3⟩ := h d (List.mem_cons_self ..)
    have e : (2 : Int) ^ (64 * (d :: t).length) = 18446744073709551616 * 2 ^ (64 * t.length) := by
      rw [List.length_cons, Nat.mul_add, Int.pow_add, Int.mul_comm]; rfl
    rw [e, uval]; omega
theorem p2_pos (n : Nat) : (0 : Int) < 2 ^ n := Int.pow_pos (by decide)
theorem uval_bit {ws : List Int} (h : WordsOk ws) (i : Nat) : ws.getD (i / 64) 0 / 2 ^ (i % 64) % 2 = uval ws / 2 ^ i % 2 := by
  induction ws generalizing i with
  | nil => simp [uval]
  | cons d t ih =>
    obtain ⟨h2, h3⟩ := h d (List.mem_cons_self ..)
    rcases Nat.lt_or_ge i 64 with hi | hi
    · have e1 : i / 64 = 0 := by omega
      have e2 : i % 64 = i := by omega
      rw [e1, e2, uval]
      have e3 : (18446744073709551616 : Int) * uval t = 2 ^ i * (2 * (2 ^ (63 - i) * uval t)) := by
        have : (18446744073709551616 : Int) = 2 ^ i * 2 ^ 1 * 2 ^ (63 - i) := by
          rw [← Int.pow_add, ← Int.pow_add, show i + 1 + (63 - i) = 64 by omega]; rfl
        rw [this]; simp only [Int.mul_assoc, Int.pow_succ, Int.pow_zero, Int.one_mul]
      rw [e3, Int.add_mul_ediv_left _ _ (Int.ne_of_gt (p2_pos i)), Int.add_mul_emod_self_left]
      rfl
    · obtain ⟨k, rfl⟩ : ∃ k, i = 64 + k := ⟨i - 64, by omega⟩
      have e1 : (64 + k) / 64 = k / 64 + 1 := by omega
      have e2 : (64 + k) % 64 = k % 64 := by omega
      rw [e1, e2, uval]
      have e3 : (d + 18446744073709551616 * uval t) / 2 ^ (64 + k) = uval t / 2 ^ k := by
        rw [← ediv_pow]
        have e4 : (d + 18446744073709551616 * uval t) / 2 ^ 64 = uval t := by
          have : (2 : Int) ^ 64 = 18446744073709551616 := rfl
          rw [this]; omega
        rw [e4]
      rw [e3]
      exact ih (fun x hx => h x (List.mem_cons_of_mem _ hx)) k

theorem P15_two (n : Nat) : P15 n = 2 ^ (15 * n) := by
  induction n with
  | zero => rfl
  | succ n ih => rw [P15_succ, ih, Nat.mul_add, Int.pow_add, Int.mul_comm]; rfl
theorem mod_succ (x : Int) (i : Nat) : x % 2 ^ (i + 1) = x % 2 ^ i + x / 2 ^ i % 2 * 2 ^ i := by
  have h1 := Int.emod_add_mul_ediv x (2 ^ i)
  have h2 := Int.emod_add_mul_ediv (x / 2 ^ i) 2
  have p := p2_pos i
  have r0 := Int.emod_nonneg x (Int.ne_of_gt p)
  have r1 := Int.emod_lt_of_pos x p
  have t0 : 0 ≤ x / 2 ^ i % 2 := Int.emod_nonneg _ (by decide)
  have t1 : x / 2 ^ i % 2 < 2 := Int.emod_lt_of_pos _ (by decide)
  have e : (2 : Int) ^ (i + 1) = 2 ^ i * 2 := Int.pow_succ ..
  have b0 : 0 ≤ x / 2 ^ i % 2 * 2 ^ i := Int.mul_nonneg t0 (Int.le_of_lt p)
  have b1 : x / 2 ^ i % 2 * 2 ^ i ≤ 1 * 2 ^ i := Int.mul_le_mul_of_nonneg_right (by omega) (Int.le_of_lt p)
  refine (div_unique (q := x / 2 ^ i / 2) ?_ (by omega) (by omega)).2
  have e5 : (2 : Int) ^ (i + 1) * (x / 2 ^ i / 2) = 2 ^ i * (2 * (x / 2 ^ i / 2)) := by rw [e, Int.mul_assoc]
  have e6 : 2 ^ i * (x / 2 ^ i) = 2 ^ i * (x / 2 ^ i % 2) + 2 ^ i * (2 * (x / 2 ^ i / 2)) := by rw [← Int.mul_add, h2]
  have e7 : x / 2 ^ i % 2 * 2 ^ i = 2 ^ i * (x / 2 ^ i % 2) := Int.mul_comm ..
  omega

/-- the first i bits of N, as digits and what is gathered for the next one -/
structure Gat (N : Int) (i m : Nat) (ds : List Int) (r : Int) : Prop where
  ok : DigOk ds
  pos : i = 15 * ds.length + m
  sum : dval ds + P15 ds.length * r = N % 2 ^ i
  lo : 0 ≤ r
  hi : r < 2 ^ m
theorem Gat.zero (N : Int) : Gat N 0 0 [] 0 := ⟨DigOk.nil, rfl, by simp [dval], by decide, by decide⟩
theorem Gat.bit {N : Int} {i m : Nat} {ds : List Int} {r b : Int} (h : Gat N i m ds r) (hb : b = N / 2 ^ i % 2) :
    dval ds + P15 ds.length * (r + b * 2 ^ m) = N % 2 ^ (i + 1) ∧ 0 ≤ r + b * 2 ^ m ∧ r + b * 2 ^ m < 2 ^ (m + 1) := by
  have p := p2_pos m
  have t0 : 0 ≤ b := hb ▸ Int.emod_nonneg _ (by decide)
  have t1 : b < 2 := hb ▸ Int.emod_lt_of_pos _ (by decide)
  have b0 : 0 ≤ b * 2 ^ m := Int.mul_nonneg t0 (Int.le_of_lt p)
  have b1 : b * 2 ^ m ≤ 1 * 2 ^ m := Int.mul_le_mul_of_nonneg_right (by omega) (Int.le_of_lt p)
  have e : (2 : Int) ^ (m + 1) = 2 ^ m * 2 := Int.pow_succ ..
  have := h.lo; have := h.hi
  refine ⟨?_, by omega, by omega⟩
  rw [mod_succ, ← hb, ← h.sum, Int.mul_add]
  have e2 : (2 : Int) ^ i = P15 ds.length * 2 ^ m := by rw [P15_two, ← Int.pow_add, ← h.pos]
  rw [e2]
  have e3 : b * (P15 ds.length * 2 ^ m) = P15 ds.length * (b * 2 ^ m) := Int.mul_left_comm ..
  omega
theorem Gat.on {N : Int} {i m : Nat} {ds : List Int} {r b : Int} (h : Gat N i m ds r) (hb : b = N / 2 ^ i % 2) : Gat N (i + 1) (m + 1) ds (r + b * 2 ^ m) := by
  obtain ⟨h1, h2, h3⟩ := h.bit hb
  exact ⟨h.ok, by have := h.pos; omega, h1, h2, h3⟩
theorem Gat.next {N : Int} {i : Nat} {ds : List Int} {r b : Int} (h : Gat N i 14 ds r) (hb : b = N / 2 ^ i % 2) : Gat N (i + 1) 0 (ds ++ [r + b * 2 ^ 14]) 0 := by
  obtain ⟨h1, h2, h3⟩ := h.bit hb
  have h3' : r + b * 2 ^ 14 < 32768 := h3
  refine ⟨h.ok.append (DigOk.one ⟨h2, h3'⟩), ?_, ?_, by decide, by decide⟩
  · have := h.pos; rw [List.length_append, List.length_singleton]; omega
  · rw [Int.mul_zero, Int.add_zero, dval_append, ← h1]; simp [dval]
theorem Gat.done {N : Int} {i m : Nat} {ds : List Int} {r : Int} (h : Gat N i m ds r) (hm : m ≤ 14) (h0 : 0 ≤ N) (h1 : N < 2 ^ i) : DigOk (ds ++ [r]) ∧ dval (ds ++ [r]) = N := by
  have e : (2 : Int) ^ m ≤ 2 ^ 14 := by
    have := p2_pos (14 - m); have p := p2_pos m
    have e : (2 : Int) ^ 14 = 2 ^ m * 2 ^ (14 - m) := by rw [← Int.pow_add, show m + (14 - m) = 14 by omega]
    have : (2 : Int) ^ m * 1 ≤ 2 ^ m * 2 ^ (14 - m) := Int.mul_le_mul_of_nonneg_left (by omega) (by omega)
    omega
  have e14 : (2 : Int) ^ 14 = 16384 := rfl
  have := h.lo; have := h.hi
  refine ⟨h.ok.append (DigOk.one ⟨by omega, by omega⟩), ?_⟩
  have := h.sum
  rw [Int.emod_eq_of_lt h0 h1] at this
  rw [dval_append, ← this]; simp [dval]

theorem dval_set {ds : List Int} {j : Nat} (hj : j < ds.length) (v : Int) : dval (ds.set j v) = dval ds + P15 j * (v - ds.getD j 0) := by
  induction ds generalizing j with
  | nil => cases hj
  | cons d t ih =>
    cases j with
    | zero => simp [dval, P15_0]; omega
    | succ j =>
      have hj' : j < t.length := by simpa using hj
      rw [List.set_cons_succ, dval, dval, ih hj', P15_succ, List.getD_cons_succ, Int.mul_add, Int.mul_assoc]; omega
theorem DigOk.set {ds : List Int} (h : DigOk ds) {v : Int} (hv : 0 ≤ v ∧ v < 32768) (j : Nat) : DigOk (ds.set j v) := fun x hx => by
  rcases List.mem_or_eq_of_mem_set hx with h' | h'
  · exact h x h'
  · rw [h']; exact hv
theorem getD_set_ne {ds : List Int} {i j : Nat} (h : i ≠ j) (v : Int) : (ds.set i v).getD j 0 = ds.getD j 0 := by
  simp [List.getD, List.getElem?_set_ne h]
theorem dval_take_succ' (ds : List Int) (k : Nat) : dval (ds.take (k + 1)) = dval (ds.take k) + P15 k * ds.getD k 0 := by
  rcases Nat.lt_or_ge k ds.length with h | h
  · rw [List.take_succ_eq_append_getElem h, dval_append, List.length_take, Nat.min_eq_left (by omega), getD_in' h]
    simp [dval]
  · rw [List.take_of_length_le (by omega), List.take_of_length_le h, getD_out h]; simp

/-- the product so far: all of the first i digits, and of the next one as many as k of the other number's -/
structure Prd (xs ys : List Int) (n i k : Nat) (out : List Int) (c : Int) : Prop where
  ok : DigOk out
  len : out.length = n
  sum : dval out + P15 (i + k) * c = dval (xs.take i) * dval ys + P15 i * (xs.getD i 0 * dval (ys.take k))
  far : ∀ j, i + ys.length ≤ j → out.getD j 0 = 0
  lo : 0 ≤ c
  hi : c ≤ 32767
theorem Prd.start {xs ys : List Int} {n i : Nat} {out : List Int} (h1 : DigOk out) (h2 : out.length = n) (h3 : dval out = dval (xs.take i) * dval ys) (h4 : ∀ j, i + ys.length ≤ j → out.getD j 0 = 0) : Prd xs ys n i 0 out 0 :=
  ⟨h1, h2, by rw [h3]; simp [dval], h4, by decide, by decide⟩
theorem prd_n {a x y c : Int} (ha : 0 ≤ a ∧ a < 32768) (hx : 0 ≤ x ∧ x < 32768) (hy : 0 ≤ y ∧ y < 32768) (hc : 0 ≤ c ∧ c ≤ 32767) :
    0 ≤ x * y ∧ x * y ≤ 1073676289 ∧ 0 ≤ (a + x * y + c) / 32768 ∧ (a + x * y + c) / 32768 ≤ 32767 := by
  have h1 : 0 ≤ x * y := Int.mul_nonneg hx.1 hy.1
  have h2 : x * y ≤ 32767 * 32767 := Int.mul_le_mul (by omega) (by omega) hy.1 (by decide)
  omega
theorem Prd.step {xs ys : List Int} {n i k : Nat} {out : List Int} {c x y a : Int} (h : Prd xs ys n i k out c) (dx : DigOk xs) (dy : DigOk ys) (hk : k < ys.length) (hn : i + ys.length < n)
    (hx : x = xs.getD i 0) (hy : y = ys.getD k 0) (ha : a = out.getD (i + k) 0) :
    Prd xs ys n i (k + 1) (out.set (i + k) ((a + x * y + c) % 32768)) ((a + x * y + c) / 32768) := by
  have b := prd_n (ha ▸ h.ok.get (i + k)) (hx ▸ dx.get i) (hy ▸ dy.get k) ⟨h.lo, h.hi⟩
  refine ⟨h.ok.set (by omega) _, by rw [List.length_set]; exact h.len, ?_, fun j hj => ?_, b.2.2.1, b.2.2.2⟩
  · rw [dval_set (by rw [h.len]; omega), ← ha, dval_take_succ', ← hx, ← hy, ← Nat.add_assoc, P15_succ]
    have e1 := h.sum
    rw [← hx] at e1
    have e2 := Int.emod_add_mul_ediv (a + x * y + c) 32768
    have e3 : 32768 * P15 (i + k) * ((a + x * y + c) / 32768) = P15 (i + k) * (32768 * ((a + x * y + c) / 32768)) := by rw [Int.mul_comm 32768, Int.mul_assoc]
    have e4 : P15 (i + k) * ((a + x * y + c) % 32768 - a) + P15 (i + k) * (32768 * ((a + x * y + c) / 32768)) = P15 (i + k) * (x * y) + P15 (i + k) * c := by
      rw [← Int.mul_add, ← Int.mul_add]
      have e6 : (a + x * y + c) % 32768 - a + 32768 * ((a + x * y + c) / 32768) = x * y + c := by omega
      rw [e6]
    have e5 : P15 i * (x * (dval (ys.take k) + P15 k * y)) = P15 i * (x * dval (ys.take k)) + P15 (i + k) * (x * y) := by
      rw [Int.mul_add, Int.mul_add, P15_add, Int.mul_assoc (P15 i), Int.mul_left_comm x]
    rw [e5, e3]; omega
  · rw [getD_set_ne (by omega)]; exact h.far j hj
theorem Prd.row {xs ys : List Int} {n i : Nat} {out : List Int} {c a : Int} (h : Prd xs ys n i ys.length out c) (hn : i + ys.length < n) (ha : a = out.getD (i + ys.length) 0) :
    Prd xs ys n (i + 1) 0 (out.set (i + ys.length) (a + c)) 0 := by
  have a0 : a = 0 := ha.trans (h.far _ (Nat.le_refl _))
  subst a0
  rw [Int.zero_add]
  refine Prd.start (h.ok.set ⟨h.lo, by have := h.hi; omega⟩ _) (by rw [List.length_set]; exact h.len) ?_ fun j hj => ?_
  · rw [dval_set (by rw [h.len]; omega), ← ha, Int.sub_zero, h.sum, List.take_of_length_le (Nat.le_refl _), dval_take_succ', Int.add_mul, Int.mul_assoc]
  · rw [getD_set_ne (by omega)]; exact h.far j (by omega)
theorem dval_repl (n : Nat) : dval (List.replicate n 0) = 0 := by
  induction n with
  | zero => rfl
  | succ n ih => rw [List.replicate_succ, dval, ih]; rfl
theorem Prd.zero (xs ys : List Int) (n : Nat) : Prd xs ys n 0 0 (List.replicate n 0) 0 := by
  refine Prd.start (fun x hx => by rw [(List.mem_replicate.1 hx).2]; decide) (List.length_replicate ..) (by rw [dval_repl]; simp [dval]) fun j _ => ?_
  rcases Nat.lt_or_ge j n with h | h
  · rw [getD_in' (by rw [List.length_replicate]; exact h)]; simp
  · exact getD_out (by rw [List.length_replicate]; exact h)
theorem Prd.all {xs ys : List Int} {n : Nat} {out : List Int} {c : Int} (h : Prd xs ys n xs.length 0 out c) (hc : c = 0) : DigOk out ∧ dval out = dval xs * dval ys := by
  refine ⟨h.ok, ?_⟩
  have := h.sum
  rw [hc, Int.mul_zero, Int.add_zero, List.take_of_length_le (Nat.le_refl _)] at this
  rw [this]; simp [dval]
end Go.Proofs.Ytdcihglpfchcmaa
namespace Go.Proofs.Ytdcihglpfchcmaa

end Go.Proofs.Ytdcihglpfchcmaa
namespace Go.Proofs.Ytdcihglpfchcmaa
open Go.RowKit

/-- a slice of words that holds these -/
structure Ws (w : World) (b : Nat) (ws : List Int) : Prop where
  cell : ∀ i, i < ws.length → w.cell? ⟨b, i, none⟩ = some (.int .u64 (ws.getD i 0))
  blk : b < w.heap.size
  ok : WordsOk ws
  len : ws.length ≤ 4
theorem Ws.of {w w' : World} {b : Nat} {ws : List Int} (h : Ws w b ws) (hb : Below w.heap.size w w') : Ws w' b ws :=
  ⟨fun i hi => by rw [hb.cell (p := ⟨b, i, none⟩) h.blk]; exact h.cell i hi, Nat.lt_of_lt_of_le h.blk hb.size, h.ok, h.len⟩

theorem Blk.grown {w w' : World} {b : Nat} {c : Array Value} {t : TypeId} {row : Option Nat} (h : Blk w b c t) (hg : w.grownBy w' row) (hne : row ≠ some b) : Blk w' b c t := by
  have := hg.block b h.lt (fun e => hne e.symm)
  exact this.trans h
theorem ownsRow_drew {w : World} {base n size : Nat} {e : TypeId} {v : Value} {xs : List Value} (h : w.ownsRow base e size v n xs) : w.drew.ownsRow base e size v n xs := h
theorem words_get {ws : List Int} (h : WordsOk ws) (i : Nat) : Wd (ws.getD i 0) := by
  by_cases hi : i < ws.length
  · rw [getD_in' hi]; exact h _ (List.getElem_mem hi)
  · rw [getD_out (by omega)]; exact ⟨by decide, by decide⟩
theorem p2_le {i j : Nat} (h : i ≤ j) : (2 : Int) ^ i ≤ 2 ^ j := by
  have e : (2 : Int) ^ j = 2 ^ i * 2 ^ (j - i) := by rw [← Int.pow_add, show i + (j - i) = j by omega]
  have := p2_pos (j - i); have p := p2_pos i
  have : (2 : Int) ^ i * 1 ≤ 2 ^ i * 2 ^ (j - i) := Int.mul_le_mul_of_nonneg_left (by omega) (by omega)
  omega
theorem u64_p2 {i : Nat} (h : i < 64) : IntKind.u64.wrap (2 ^ i) = 2 ^ i := by
  have p := p2_pos i
  have e : (2 : Int) ^ 64 = 2 ^ i * 2 ^ (64 - i) := by rw [← Int.pow_add, show i + (64 - i) = 64 by omega]
  have q : (2 : Int) ^ i * 2 ≤ 2 ^ i * 2 ^ (64 - i) := by
    refine Int.mul_le_mul_of_nonneg_left ?_ (Int.le_of_lt p)
    have e2 : (2 : Int) ^ (64 - i) = 2 * 2 ^ (63 - i) := by rw [show 64 - i = (63 - i) + 1 by omega, Int.pow_succ, Int.mul_comm]
    have := p2_pos (63 - i)
    omega
  have e64 : (2 : Int) ^ 64 = 18446744073709551616 := rfl
  have hw : ∀ x : Int, 0 ≤ x → x < 18446744073709551616 → IntKind.u64.wrap x = x := fun x h0 h1 => by simp [IntKind.wrap, IntKind.signed, IntKind.bits]; omega
  exact hw _ (Int.le_of_lt p) (by omega)

set_option maxRecDepth 100000 in
set_option maxHeartbeats 1000000 in
theorem Words_any (b cap n : Nat) (ws : List Int) (w : World) (h : Ws w b ws) (hn : n = ws.length) :
    Calls Try.prog 51 #[.slice (some ⟨b, 0, none⟩) n cap] w (GivesBig w (uval ws) (64 * n / 15 + 1)) := by
  obtain ⟨i0, hi, hz0, hz1, hz2⟩ := info_parts info_int
  have HW := Lib.hid h
  have HN := Lib.hid hn
  have n4 : n ≤ 4 := hn ▸ h.len
  clear h hn
  go_enter Try.func51, Try.ntmps51
  go_wp2_with fail
  refine name_world ?_
  intro W hW
  have k0 : Blk W w.heap.size #[.bool false, .slice none 0 0] 50 := by rw [hW]; exact Blk.new _ _ _
  have hb0 : Below w.heap.size w W := by rw [hW]; exact below_a1 _ _
  clear hW
  go_loopw [3, 4, 5, 6] (fun out room many i wr => ∃ (k m L : Nat) (r : Int) (ds : List Int), k ≤ 64 * n ∧ i = .int .i64 k ∧ many = .int .i64 m ∧ m ≤ 14 ∧ room = .int .u64 r ∧ 0 ≤ r ∧ r < 32768 ∧ L ≤ 18 ∧ wr.ownsRow (w.heap.size + 1) 3 1 out L (dg ds) ∧
      Hid (ds.length = L ∧ Gat (uval ws) k m ds r) ∧ Blk wr w.heap.size #[.bool false, .slice none 0 0] 50 ∧ Below w.heap.size w wr) (fun _ _ _ i _ => 64 * n - (intOf i).toNat)
  case atStart => exact ⟨0, 0, 0, 0, [], Nat.zero_le _, rfl, rfl, by decide, rfl, by decide, by decide, by decide, World.ownsRow_nil _ _ _ _, ⟨rfl, Gat.zero _⟩, k0, hb0⟩
  case round =>
    clear k0 hb0
    rename_i wr
    obtain ⟨k, m, L, r, ds, hk, rfl, rfl, hm, rfl, r0, r1, hL, hown, hds, kr, hbl⟩ := hrel
    by_cases h1 : k < 64 * n
    · have e0 : wr.cell? ⟨b, k / 64, none⟩ = some (.int .u64 (ws.getD (k / 64) 0)) := by rw [hbl.cell (p := ⟨b, k / 64, none⟩) HW.out.blk]; exact HW.out.cell _ (by rw [← HN.out]; omega)
      obtain ⟨x, hx⟩ : ∃ x, x = ws.getD (k / 64) 0 := ⟨_, rfl⟩
      rw [← hx] at e0
      have HX := Lib.hid hx
      have KR := Lib.hid kr
      clear hx kr
      have l0 : b < wr.heap.size := Nat.lt_of_lt_of_le HW.out.blk hbl.size
      go_wp2_with fail
      refine name_world ?_
      intro W hW
      subst hW
      refine wp_region_up W.heap.size 11 [(true, 0), (true, 1), (true, 2), (true, 3), (true, 4), (true, 5), (true, 6), (true, 7), (true, 8), (true, 9), (true, 10)] (by kernel_rfl) (by kernel_rfl) (fun _ _ d _ _ h => by cases d <;> exact h) ?_
      iterate 8
        refine wpS_takeL rfl rfl ?_
        go_big_quiet_step (rfl)
        refine wpQuiet_nil ?_
      obtain ⟨p, hp⟩ : ∃ p : Int, p = IntKind.u64.wrap (2 ^ (k % 64)) := ⟨_, rfl⟩
      rw [← hp]
      have p0 : 0 < p := by rw [hp, u64_p2 (by omega)]; exact p2_pos _
      have HP := Lib.hid hp
      clear hp
      have hxw : Wd x := HX.out ▸ words_get HW.out.ok _
      have x0 := hxw.lo
      have x1 : x ≤ 18446744073709551615 := by have := hxw.hi; omega
      clear hxw
      refine wpS_takeL rfl rfl ?_
      go_big_quiet_step (rfl)
      refine wpQuiet_nil ?_
      obtain ⟨q, hq⟩ : ∃ q : Int, q = x / p := ⟨_, rfl⟩
      rw [← hq]
      have q0 : 0 ≤ q := by rw [hq]; exact Int.ediv_nonneg x0 (Int.le_of_lt p0)
      have q1 : q ≤ 18446744073709551615 := by rw [hq]; exact Int.le_trans (Int.ediv_le_self _ x0) x1
      have HQ := Lib.hid hq
      clear hq x0 x1
      refine wpS_takeL rfl rfl ?_
      go_big_quiet_step (rfl)
      refine wpQuiet_nil ?_
      obtain ⟨t, ht⟩ : ∃ t : Int, t = q % 2 := ⟨_, rfl⟩
      rw [← ht]
      have t0 : 0 ≤ t := by omega
      have t1 : t ≤ 1 := by omega
      have hbit : t = uval ws / 2 ^ k % 2 := by
        rw [ht, HQ.out, HP.out, HX.out, u64_p2 (by omega)]
        exact uval_bit HW.out.ok k
      have HB := Lib.hid hbit
      clear ht hbit q0 q1
      refine wpS_takeL rfl rfl ?_
      go_big_quiet_step (rfl)
      refine wpQuiet_nil ?_
      refine wpS_nil ?_
      simp only [List.drop_succ_cons, List.drop_zero]
      have hst := hds.out.2.bit HB.out
      have r2 : r + t * 2 ^ m < 2 ^ 15 := Int.lt_of_lt_of_le hst.2.2 (p2_le (by omega))
      obtain ⟨r3, hr3⟩ : ∃ r3 : Int, r3 = r + t * 2 ^ m := ⟨_, rfl⟩
      rw [← hr3] at hst r2
      have r30 := hst.2.1
      have r31 : r3 ≤ 32767 := by have : (2 : Int) ^ 15 = 32768 := rfl; omega
      obtain ⟨P, hP⟩ : ∃ P : Int, P = IntKind.u64.wrap (2 ^ m) := ⟨_, rfl⟩
      have hP' : P = 2 ^ m := hP.trans (u64_p2 (by omega))
      have hT : IntKind.u64.wrap (t * P) = r3 - r := by
        rw [show t * P = r3 - r by rw [hP', hr3]; omega]
        have := Int.mul_nonneg t0 (Int.le_of_lt (p2_pos m))
        exact IntWalk.u64_in _ (by omega)
      have hP2 : IntKind.u64.wrap (2 ^ m) = P := hP.symm
      have hR : r + (r3 - r) = r3 := by omega
      have R3 := Lib.hid hr3
      clear hst r2 hr3 hP' hP
      have h15 : ((m : Int) + 1 == 15) = true ∨ ((m : Int) + 1 == 15) = false := by cases ((m : Int) + 1 == 15) <;> simp
      clear e0 l0
      rcases h15 with h15 | h15
      · have m14 : m = 14 := by have := beq_iff_eq.1 h15; omega
        have hst := hds.out.2
        have hlen := hds.out.1
        rw [m14] at hst
        have R4 := R3.out
        rw [m14] at R4
        have ST := Lib.hid (hst.next HB.out)
        rw [← R4] at ST
        have HL := Lib.hid hlen
        have hL' : 15 * L ≤ 256 := by have := hst.pos; omega
        clear hst hlen R4 m14 hds
        go_wp2_with (at_builtin; refine wpList_append_own _ rfl _ _ 48 rfl (w.heap.size + 1) 3 i0 (.int .i64 0) 1 8 Try.underlying48 hi hz0 hz1 hz2 rfl (by decide) _ _ _ rfl ((ownsRow_drew hown).alloc _) ⟨W.heap.size, 0, none⟩ 1 1 [.int .i64 r3] rfl rfl (one_new W.drew _ _) (one_cell _) (by unfold maxLen; omega) (by omega) (by have := hbl.size; have := KR.out.lt; simp; omega) ?_; intro v' w1 hown' hgrow _)
        have hb1 : Below w.heap.size w w1 := (hbl.drew.alloc hbl.size _).grown hgrow (by have := hbl.size; simp; omega) (fun k hk => Nat.le_of_succ_le (hown.lt k hk).1)
        have k1 : Blk w1 w.heap.size #[.bool false, .slice none 0 0] 50 := (KR.out.drew.alloc _).grown hgrow (fun h => Nat.lt_irrefl _ (hown.lt _ h).1)
        rw [← dg_snoc] at hown'
        clear hown hbl hgrow
        go_wp2
        go_roundw
        case rel => exact ⟨k + 1, 0, L + 1, 0, _, by omega, by go_num, rfl, by decide, rfl, by decide, by decide, by omega, hown', ⟨by rw [List.length_append, HL.out]; rfl, ST.out⟩, k1, hb1⟩
        case measure => simp [intOf]; omega
      · have m13 : m + 1 ≤ 14 := by have := beq_eq_false_iff_ne.1 h15; omega
        have ST := Lib.hid (hds.out.2.on HB.out)
        rw [← R3.out] at ST
        have HL := Lib.hid hds.out.1
        have k1 : Blk W.drew w.heap.size #[.bool false, .slice none 0 0] 50 := KR.out.drew
        have K1 := Lib.hid k1
        clear hds k1
        go_wp2
        go_roundw
        case rel => exact ⟨k + 1, m + 1, L, r3, ds, by omega, by go_num, by go_num, by omega, rfl, by omega, by omega, hL, ownsRow_drew hown, ⟨HL.out, ST.out⟩, K1.out, hbl.drew⟩
        case measure => simp [intOf]; omega
    · have hk' : k = 64 * n := by omega
      have HK := Lib.hid hk'
      have KR := Lib.hid kr
      have hL' : 15 * L ≤ 256 := by have := hds.out.2.pos; have := hds.out.1; omega
      have gl : (ds ++ [r]).length = L + 1 := by rw [List.length_append, hds.out.1]; rfl
      have fin := hds.out.2.done hm (uval_bd HW.out.ok).1 (by rw [HK.out, HN.out]; exact (uval_bd HW.out.ok).2)
      have HP := Lib.hid (show (ds ++ [r]).length ≤ 64 * n / 15 + 1 by have := HK.out; have := hds.out.2.pos; have := hds.out.1; omega)
      have FIN := Lib.hid fin
      have GL := Lib.hid gl
      clear hk' kr hds gl fin
      go_wp2_with (at_builtin; refine wpList_append_own _ rfl _ _ 48 rfl (w.heap.size + 1) 3 i0 (.int .i64 0) 1 8 Try.underlying48 hi hz0 hz1 hz2 rfl (by decide) _ _ _ rfl (hown.alloc _) ⟨wr.heap.size, 0, none⟩ 1 1 [.int .i64 r] rfl rfl (one_new _ _ _) (one_cell _) (by unfold maxLen; omega) (by omega) (by have := hbl.size; have := KR.out.lt; simp; omega) ?_; intro v' w1 hown' hgrow _; rw [← dg_snoc] at hown'; obtain ⟨ao2, b2, cap2, hv, hsl⟩ := own_sl hown' GL.out (by omega); subst hv; rw [GL.out]; have hb1 : Below w.heap.size w w1 := (hbl.alloc hbl.size _).grown hgrow (by have := hbl.size; simp; omega) (fun k hk => Nat.le_of_succ_le (hown.lt k hk).1); have k1 : Blk w1 w.heap.size #[.bool false, .slice none 0 0] 50 := (KR.out.alloc _).grown hgrow (fun h => Nat.lt_irrefl _ (hown.lt _ h).1); have SL := Lib.hid hsl; have K1 := Lib.hid k1; clear hown hown' hbl hgrow hsl k1 KR)
      have T := trim_any false ao2 b2 cap2 (ds ++ [r]) w1 SL.out FIN.out.1 (64 * n / 15 + 1) HP.out
      rw [GL.out, FIN.out.2] at T
      refine T.mono ?_
      clear T
      rintro e w3 ⟨v3, rfl, hbig, hn⟩
      have HBG := Lib.hid hbig
      have hvv := hbig.shape
      clear hbig
      obtain ⟨n3, a3, q3, c3, rfl⟩ := hvv
      have k2 : Blk w3 _ _ _ := K1.out.of hn
      have d0 := k2.cell 0
      have d1 := k2.cell 1
      have f0 := k2.free 0
      have f1 := k2.free 1
      simp only [List.getElem?_toArray, List.getElem?_cons_zero, List.getElem?_cons_succ] at d0 d1
      have hb2 := hb1.trans (hn.mono hb1.size)
      clear hn k2 hb1
      go_wp2
      simp [bodyPost, results, Try.results51, go_sem, d0, d1]
      refine ⟨_, rfl, ?_, set2_below hb2 (Nat.le_refl _) _ _⟩
      exact HBG.out.set2 d0 (.bool n3) (.slice a3 q3 c3)
end Go.Proofs.Ytdcihglpfchcmaa
namespace Go.Proofs.Ytdcihglpfchcmaa
open Go.RowKit

/-- a number that is not too great has not too many digits -/
theorem Big.fit {w : World} {v : Value} {n : Int} {L k : Nat} (h : Big w v n L) (hk : -P15 k < n ∧ n < P15 k) : Big w v n k := by
  obtain ⟨neg, ao, b, cap, ds, h1, h2, h3, h4, h5, h6, h7⟩ := h
  refine ⟨neg, ao, b, cap, ds, h1, h2, h3, h4, h5, h6, norm_len h3 h4 ?_⟩
  cases neg <;> simp at h6 <;> omega
theorem GivesBig.fit {w : World} {n : Int} {L k : Nat} {e : Ending} {w' : World} (h : GivesBig w n L e w') (hk : -P15 k < n ∧ n < P15 k) : GivesBig w n k e w' := by
  obtain ⟨v, h1, h2, h3⟩ := h
  exact ⟨v, h1, h2.fit hk, h3⟩
end Go.Proofs.Ytdcihglpfchcmaa
namespace Go.Proofs.Ytdcihglpfchcmaa
open Go.RowKit

end Go.Proofs.Ytdcihglpfchcmaa

namespace Go.Proofs.Ytdcihglpfchcmaa
open Go.RowKit

theorem dg_get {ds : List Int} {j : Nat} (h : j < ds.length) : (dg ds).toArray[j]? = some (.int .i64 (ds.getD j 0)) := by
  unfold dg; simp [h]
theorem dg_put (ds : List Int) (j : Nat) (v : Int) : (dg ds).toArray.setIfInBounds j (.int .i64 v) = (dg (ds.set j v)).toArray := by
  unfold dg; rw [List.setIfInBounds_toArray, List.map_set]
theorem dg_zero (n : Nat) : madeCells #[.int .i64 0] n = (dg (List.replicate n 0)).toArray := by
  unfold dg; rw [List.map_replicate, ← toList_madeCells_one]

/-- where the product stands -/
structure MulAt (w : World) (v1 v2 : Array Value) (out : List Int) (n : Nat) (wr : World) : Prop where
  k0 : Blk wr w.heap.size v1 50
  k1 : Blk wr (w.heap.size + 1) v2 50
  k2 : Blk wr (w.heap.size + 1 + 1) #[.bool false, .slice none 0 0] 50
  k3 : Blk wr (w.heap.size + 1 + 1 + 1) (dg out).toArray 3
  len : out.length = n
  below : Below w.heap.size w wr
theorem MulAt.drew {w : World} {v1 v2 : Array Value} {out : List Int} {n : Nat} {wr : World} (h : MulAt w v1 v2 out n wr) : MulAt w v1 v2 out n wr.drew := ⟨h.k0, h.k1, h.k2, h.k3, h.len, h.below.drew⟩
theorem MulAt.put {w : World} {v1 v2 : Array Value} {out : List Int} {n : Nat} {wr : World} (h : MulAt w v1 v2 out n wr) (j : Nat) (v : Int) : MulAt w v1 v2 (out.set j v) n (wr.setCell ⟨w.heap.size + 1 + 1 + 1, j, none⟩ (.int .i64 v)) :=
  ⟨h.k0.set (by omega) _ _ _, h.k1.set (by omega) _ _ _, h.k2.set (by omega) _ _ _, by rw [← dg_put]; exact Blk.put h.k3 _ _, by rw [List.length_set]; exact h.len, h.below.setCell (by show _ ≤ w.heap.size + 1 + 1 + 1; omega) _⟩
theorem MulAt.outc {w : World} {v1 v2 : Array Value} {out : List Int} {n : Nat} {wr : World} (h : MulAt w v1 v2 out n wr) {j : Nat} (hj : j < n) : wr.cell? ⟨w.heap.size + 1 + 1 + 1, j, none⟩ = some (.int .i64 (out.getD j 0)) := by
  rw [h.k3.cell]; exact dg_get (by rw [h.len]; exact hj)

set_option maxRecDepth 100000 in
set_option maxHeartbeats 2000000 in
theorem bigMul_go (neg neg' : Bool) (ao bo : Option Addr) (b b' cap cap' : Nat) (xs ys : List Int) (w : World) (ha : Sl w ao b cap xs) (hb : Sl w bo b' cap' ys) (da : DigOk xs) (db : DigOk ys)
    (hl1 : xs.length < 268435456) (hl2 : ys.length < 268435456) :
    Calls Try.prog 36 #[.agg #[.bool neg, .slice ao xs.length cap], .agg #[.bool neg', .slice bo ys.length cap']] w
      (GivesBig w (bif neg != neg' then -(dval xs * dval ys) else dval xs * dval ys) (xs.length + ys.length + 1)) := by
  have HA := Lib.hid ha
  have HB := Lib.hid hb
  have D := Lib.hid (And.intro da db)
  have la := hl1
  have lb := hl2
  clear ha hb da db hl1 hl2
  obtain ⟨N, hN⟩ : ∃ N, N = xs.length := ⟨_, rfl⟩
  obtain ⟨M, hM⟩ : ∃ M, M = ys.length := ⟨_, rfl⟩
  have HN := Lib.hid hN
  have HM := Lib.hid hM
  rw [← hN] at la ⊢
  rw [← hM] at lb ⊢
  clear hN hM
  have hmk := run_make_row' (P := Try.prog) 48 3 (.int .i64 0) 8 Try.underlying48 info_int rfl .i64 .i64 (N + M + 1) (by omega) (by omega)
  have e1 : ((N + M + 1 : Nat) : Int) = (N : Int) + (M : Int) + 1 := by omega
  rw [e1, dg_zero] at hmk
  clear e1
  go_enter Try.func36, Try.ntmps36
  go_wp2_with fail
  clear hmk
  refine name_world ?_
  intro W hW
  have hd0 : MulAt w #[.bool neg, .slice ao N cap] #[.bool neg', .slice bo M cap'] (List.replicate (N + M + 1) 0) (N + M + 1) W := by
    rw [hW]
    exact ⟨((Blk.new _ _ _).alloc _).alloc _ |>.alloc _, ((Blk.new1 _ _ _ _).alloc _).alloc _, (Blk.new2 _ _ _ _ _).alloc _, Blk.new3 _ _ _ _ _ _, List.length_replicate .., (below_a3 _ _ _ _).alloc (by simp; omega) _⟩
  clear hW
  go_loopw [6] (fun i wr => ∃ (k : Nat) (out : List Int), k ≤ N ∧ i = .int .i64 k ∧ Hid (Prd xs ys (N + M + 1) k 0 out 0) ∧ MulAt w #[.bool neg, .slice ao N cap] #[.bool neg', .slice bo M cap'] out (N + M + 1) wr) (fun i _ => N - (intOf i).toNat)
  case atStart => exact ⟨0, _, Nat.zero_le _, rfl, Prd.zero _ _ _, hd0⟩
  case round =>
    clear hd0 W
    rename_i wr
    obtain ⟨i, out, hi, rfl, hp, hd⟩ := hrel
    have c0 := hd.k0.cell 1
    have c1 := hd.k1.cell 1
    simp only [List.getElem?_toArray, List.getElem?_cons_zero, List.getElem?_cons_succ] at c0 c1
    by_cases h1 : i < N
    · have HD := Lib.hid hd
      clear hd
      go_wp2_with fail
      obtain ⟨wo, rfl⟩ : ∃ wo : World, wo = wr := ⟨_, rfl⟩
      have hd := HD.out
      clear c0 c1 HD
      go_loopw [7, 8] (fun c k wr => ∃ (j : Nat) (cv : Int) (out : List Int), j ≤ M ∧ k = .int .i64 j ∧ c = .int .i64 cv ∧ 0 ≤ cv ∧ cv ≤ 32767 ∧ Hid (Prd xs ys (N + M + 1) i j out cv) ∧ MulAt w #[.bool neg, .slice ao N cap] #[.bool neg', .slice bo M cap'] out (N + M + 1) wr) (fun _ k _ => M - (intOf k).toNat)
      case atStart => exact ⟨0, 0, out, Nat.zero_le _, rfl, rfl, by decide, by decide, hp, hd⟩
      case round =>
        clear hd hp
        rename World => wi
        obtain ⟨j, cv, out, hj, rfl, rfl, cv0, cv1, hp, hd⟩ := hrel
        have c0 := hd.k0.cell 1
        have c1 := hd.k1.cell 1
        simp only [List.getElem?_toArray, List.getElem?_cons_zero, List.getElem?_cons_succ] at c0 c1
        by_cases h2 : j < M
        · have ja : i < xs.length := by rw [← HN.out]; exact h1
          obtain rfl := HA.out.ptr (by omega)
          have e0 : wi.cell? ⟨b, i, none⟩ = some (.int .i64 (xs.getD i 0)) := by rw [hd.below.cell (p := ⟨b, i, none⟩) (HA.out.blk (by omega))]; exact HA.out.cell i ja
          have lb0 : b < wi.heap.size := Nat.lt_of_lt_of_le (HA.out.blk (by omega)) hd.below.size
          clear ja
          have jb : j < ys.length := by rw [← HM.out]; exact h2
          obtain rfl := HB.out.ptr (by omega)
          have e1 : wi.cell? ⟨b', j, none⟩ = some (.int .i64 (ys.getD j 0)) := by rw [hd.below.cell (p := ⟨b', j, none⟩) (HB.out.blk (by omega))]; exact HB.out.cell j jb
          have lb1 : b' < wi.heap.size := Nat.lt_of_lt_of_le (HB.out.blk (by omega)) hd.below.size
          have hst := fun (x y a : Int) (hx : x = xs.getD i 0) (hy : y = ys.getD j 0) (ha : a = out.getD (i + j) 0) => hp.out.step D.out.1 D.out.2 jb (by rw [← HM.out]; omega) hx hy ha
          clear jb
          have e2 := hd.outc (j := i + j) (by omega)
          obtain ⟨x0, x1⟩ := D.out.1.get i
          obtain ⟨y0, y1⟩ := D.out.2.get j
          obtain ⟨a0, a1⟩ := hp.out.ok.get (i + j)
          obtain ⟨x, hx⟩ : ∃ x, x = xs.getD i 0 := ⟨_, rfl⟩
          obtain ⟨y, hy⟩ : ∃ y, y = ys.getD j 0 := ⟨_, rfl⟩
          obtain ⟨a, ha⟩ : ∃ a, a = out.getD (i + j) 0 := ⟨_, rfl⟩
          have ST := Lib.hid (hst x y a hx hy ha)
          clear hst
          rw [← hx] at x0 x1 e0
          rw [← hy] at y0 y1 e1
          rw [← ha] at a0 a1 e2
          clear hx hy ha
          obtain ⟨n0, n1, n2, n3⟩ := prd_n ⟨a0, a1⟩ ⟨x0, x1⟩ ⟨y0, y1⟩ ⟨cv0, cv1⟩
          have f3 := hd.k3.free (i + j)
          have HD := Lib.hid hd
          clear hd hp
          go_wp2_with fail
          refine name_world ?_
          intro W hW
          subst hW
          have lw := HD.out.k0.lt
          have lw1 := HD.out.k1.lt
          have lw3 := HD.out.k3.lt
          refine wp_region_up W.heap.size 19 [(true, 0), (true, 1), (true, 2), (true, 3), (true, 4), (true, 5), (true, 6), (true, 7), (true, 8), (true, 9), (true, 10), (true, 11), (true, 12), (true, 13), (true, 14), (true, 15), (true, 16), (true, 17), (true, 18)] (by kernel_rfl) (by kernel_rfl) (fun _ _ d _ _ h => by cases d <;> exact h) ?_
          have hb : Below W.heap.size W W.drew := (Below.refl _ _).drew
          iterate 19
            refine wpS_takeL rfl rfl ?_
            go_big_quiet_step (rfl)
            refine wpQuiet_nil ?_
          refine wpS_nil ?_
          simp only [List.drop_succ_cons, List.drop_zero]
          clear c0 c1 e0 e1 lw lw1 lw3 lb0 lb1
          go_wp2
          go_roundw
          case rel => exact ⟨j + 1, (a + x * y + cv) / 32768, _, by omega, by go_num, rfl, n2, n3, ST.out, HD.out.drew.put _ _⟩
          case measure => simp [intOf]; omega
        · have hjm : j = M := by omega
          subst hjm
          have e2 := hd.outc (j := i + j) (by omega)
          obtain ⟨a0, a1⟩ := hp.out.ok.get (i + j)
          obtain ⟨a, ha⟩ : ∃ a, a = out.getD (i + j) 0 := ⟨_, rfl⟩
          have hst : Prd xs ys (N + j + 1) (i + 1) 0 (out.set (i + j) (a + cv)) 0 := by
            have e := HM.out
            subst e
            exact hp.out.row (by omega) ha
          rw [← ha] at a0 a1 e2
          have ST := Lib.hid hst
          have f3 := hd.k3.free (i + j)
          have HD := Lib.hid hd
          clear hd hp hst ha
          go_wp2
          go_roundw
          case rel => exact ⟨i + 1, _, by omega, by go_num, ST.out, HD.out.put _ _⟩
          case measure => simp [intOf]; omega
    · have hin : i = N := by omega
      have hp2 : DigOk out ∧ dval out = dval xs * dval ys := by
        have e := hin.trans HN.out
        subst e
        exact hp.out.all rfl
      have HP := Lib.hid hp2
      have hlen := hd.len
      have d2 := hd.k0.cell 0
      have d3 := hd.k1.cell 0
      simp only [List.getElem?_toArray, List.getElem?_cons_zero] at d2 d3
      have hlo : Sl wr (some ⟨w.heap.size + 1 + 1 + 1, 0, none⟩) (w.heap.size + 1 + 1 + 1) (N + M + 1) out := by
        refine ⟨fun _ => rfl, fun h => (by cases h), by omega, by omega, by omega, fun k hk => ?_, fun _ => hd.k3.lt⟩
        rw [hlen] at hk
        exact hd.outc hk
      have SL := Lib.hid hlo
      have HL := Lib.hid hlen
      have HD := Lib.hid hd
      clear hp2 hp hin hlen hlo hd
      go_wp2_with fail
      have T := trim_any (!neg == neg') (some ⟨w.heap.size + 1 + 1 + 1, 0, none⟩) (w.heap.size + 1 + 1 + 1) (N + M + 1) out wr SL.out HP.out.1 (N + M + 1) (Nat.le_of_eq HL.out)
      rw [HL.out, HP.out.2] at T
      refine T.mono ?_
      clear T
      rintro e w3 ⟨v3, rfl, hbig, hn⟩
      have HBG := Lib.hid hbig
      have hvv := hbig.shape
      clear hbig
      obtain ⟨n3, a3, q3, c3, rfl⟩ := hvv
      have k2 := HD.out.k2.of hn
      have hb2 := HD.out.below.trans (hn.mono HD.out.below.size)
      have d4 := k2.cell 0
      have d5 := k2.cell 1
      have f4 := k2.free 0
      have f5 := k2.free 1
      simp only [List.getElem?_toArray, List.getElem?_cons_zero, List.getElem?_cons_succ] at d4 d5
      clear hn k2 c0 c1 d2 d3
      go_wp2
      simp [bodyPost, results, Try.results36, go_sem, d4, d5]
      refine ⟨_, rfl, ?_, set2_below hb2 (by omega) _ _⟩
      have hx : (!neg == neg') = (neg != neg') := by cases neg <;> cases neg' <;> rfl
      rw [← hx]
      exact HBG.out.set2 d4 (.bool n3) (.slice a3 q3 c3)

theorem bigMul_any (v v' : Value) (n m : Int) (L L' : Nat) (w : World) (h : Big w v n L) (h' : Big w v' m L') (hL : L + L' < 268435456) :
    Calls Try.prog 36 #[v, v'] w (GivesBig w (n * m) (L + L')) := by
  obtain ⟨neg, ao, b, cap, ds, rfl, hs, hd, hn, hz, hv, hl⟩ := h
  obtain ⟨neg', ao', b', cap', ds', rfl, hs', hd', hn', hz', hv', hl'⟩ := h'
  refine (bigMul_go neg neg' ao ao' b b' cap cap' ds ds' w hs hs' hd hd' (by omega) (by omega)).mono ?_
  intro e w2 hg
  have hx : n * m = (bif neg != neg' then -(dval ds * dval ds') else dval ds * dval ds') := by
    rw [hv, hv']; cases neg <;> cases neg' <;> simp [Int.neg_mul, Int.mul_neg]
  rw [hx]
  refine hg.fit ?_
  have h1 := dval_bd hd
  have h2 := dval_bd hd'
  have h3 : 0 ≤ dval ds * dval ds' := Int.mul_nonneg h1.1 h2.1
  have h4 : dval ds * dval ds' < P15 (L + L') := by
    have g1 := P15_le hl
    have g2 := P15_le hl'
    rw [P15_add]
    have g3 : dval ds * dval ds' ≤ (P15 L - 1) * (P15 L' - 1) := Int.mul_le_mul (by omega) (by omega) h2.1 (by have := P15_pos L; omega)
    have g4 : (P15 L - 1) * (P15 L' - 1) = P15 L * P15 L' - P15 L - P15 L' + 1 := by rw [Int.sub_mul, Int.mul_sub]; omega
    have := P15_pos L; have := P15_pos L'
    omega
  cases neg <;> cases neg' <;> simp <;> omega
end Go.Proofs.Ytdcihglpfchcmaa
namespace Go.Proofs.Ytdcihglpfchcmaa
open Go.RowKit

end Go.Proofs.Ytdcihglpfchcmaa
namespace Go.Proofs.Ytdcihglpfchcmaa
open Go.RowKit

/-- where the search for the common one stands -/
structure ComAt (w : World) (a b : Int) (wr : World) : Prop where
  va : Var wr w.heap.size a
  vb : Var wr (w.heap.size + 1) b
  v0 : Var wr (w.heap.size + 1 + 1) 0
  below : Below w.heap.size w wr
theorem ComAt.of {w : World} {a b : Int} {wr w' : World} (h : ComAt w a b wr) (hn : Below wr.heap.size wr w') : ComAt w a b w' :=
  ⟨h.va.of hn, h.vb.of hn, h.v0.of hn, h.below.trans (hn.mono h.below.size)⟩

end Go.Proofs.Ytdcihglpfchcmaa
namespace Go.Proofs.Ytdcihglpfchcmaa
open Go.RowKit

theorem Sign_is (x : Int) (s : Int) (hs : x.sign = s) (w : World) (h : InI x) :
    Calls Try.prog 24 #[wI x] w fun e w' => e = .returned (.int .i64 s) ∧ Below w.heap.size w w' := hs ▸ Sign_any x w h
end Go.Proofs.Ytdcihglpfchcmaa
namespace Go.Proofs.Ytdcihglpfchcmaa
open Go.RowKit

end Go.Proofs.Ytdcihglpfchcmaa
namespace Go.Proofs.Ytdcihglpfchcmaa
open Go.RowKit

/-- a fraction of two Bigs -/
def BRat (w : World) (v : Value) (n d : Int) (L : Nat) : Prop :=
  ∃ (n1 : Bool) (a1 : Option Addr) (l1 c1 : Nat) (n2 : Bool) (a2 : Option Addr) (l2 c2 : Nat), v = .agg #[.bool n1, .slice a1 l1 c1, .bool n2, .slice a2 l2 c2] ∧ Big w (.agg #[.bool n1, .slice a1 l1 c1]) n L ∧ Big w (.agg #[.bool n2, .slice a2 l2 c2]) d L
theorem BRat.of {w w' : World} {v : Value} {n d : Int} {L : Nat} (h : BRat w v n d L) (hb : Below w.heap.size w w') : BRat w' v n d L := by
  obtain ⟨n1, a1, l1, c1, n2, a2, l2, c2, h1, h2, h3⟩ := h
  exact ⟨n1, a1, l1, c1, n2, a2, l2, c2, h1, h2.of hb, h3.of hb⟩
instance (x : Int) : Decidable (In64 x) := by unfold In64; exact inferInstance
end Go.Proofs.Ytdcihglpfchcmaa
namespace Go.Proofs.Ytdcihglpfchcmaa
open Go.RowKit

set_option maxRecDepth 100000 in
set_option maxHeartbeats 1000000 in
theorem mul64_nat (x y : Nat) (hx : x < 18446744073709551616) (hy : y < 18446744073709551616) (w : World) :
    Calls Try.prog 58 #[.int .u64 x, .int .u64 y] w fun e w' => e = .returned (.tuple #[.int .u64 ((x * y / 18446744073709551616 : Nat) : Int), .int .u64 ((x * y % 18446744073709551616 : Nat) : Int)]) ∧ w' = w := by
  obtain ⟨bd, bt, bw, hhi⟩ := Go.Lib.mul64_hi x y hx hy
  have ba := Go.Lib.half_mul_le (a := x / 4294967296) (b := y / 4294967296) (by omega) (by omega)
  have bb := Go.Lib.half_mul_le (a := x / 4294967296) (b := y % 4294967296) (by omega) (by omega)
  have bc := Go.Lib.half_mul_le (a := x % 4294967296) (b := y / 4294967296) (by omega) (by omega)
  have ba' : x / 4294967296 * (y / 4294967296) < 18446744073709551616 := by omega
  have bb' : x / 4294967296 * (y % 4294967296) < 18446744073709551616 := by omega
  have bc' : x % 4294967296 * (y / 4294967296) < 18446744073709551616 := by omega
  have bh1 : x / 4294967296 * (y / 4294967296) + (x / 4294967296 * (y % 4294967296) + x % 4294967296 * (y % 4294967296) / 4294967296) / 4294967296 < 18446744073709551616 := by omega
  have bh : x / 4294967296 * (y / 4294967296) + (x / 4294967296 * (y % 4294967296) + x % 4294967296 * (y % 4294967296) / 4294967296) / 4294967296 + ((x / 4294967296 * (y % 4294967296) + x % 4294967296 * (y % 4294967296) / 4294967296) % 4294967296 + x % 4294967296 * (y / 4294967296)) / 4294967296 < 18446744073709551616 := by omega
  go_enter Try.func58, Try.ntmps58
  go_wp2
  simp only [Mul64.maskN x hx, Mul64.maskN y hy, Mul64.divN, Mul64.mulN, Mul64.addN, Mul64.wrapN _ bd, Mul64.wrapN _ bb', Mul64.wrapN _ bt, Mul64.maskN _ bt, Mul64.wrapN _ bc', Mul64.wrapN _ bw, Mul64.wrapN _ ba', Mul64.wrapN _ bh1, Mul64.wrapN _ bh, Mul64.wrapM (x * y)]
  rw [hhi]
  go_ret2
  exact ⟨rfl, rfl⟩

theorem mul64_any (x y : Int) (hx : Wd x) (hy : Wd y) (w : World) :
    Calls Try.prog 58 #[.int .u64 x, .int .u64 y] w fun e w' => e = .returned (.tuple #[.int .u64 (x * y / 18446744073709551616), .int .u64 (x * y % 18446744073709551616)]) ∧ w = w' := by
  obtain ⟨x0, x1⟩ := hx
  obtain ⟨y0, y1⟩ := hy
  obtain ⟨m, rfl⟩ := Int.eq_ofNat_of_zero_le x0
  obtain ⟨n, rfl⟩ := Int.eq_ofNat_of_zero_le y0
  refine (mul64_nat m n (by omega) (by omega) w).mono fun e w' ⟨he, hw⟩ => ⟨?_, hw.symm⟩
  rw [he]
  simp only [Int.natCast_ediv, Int.natCast_emod, Int.natCast_mul]
  rfl
end Go.Proofs.Ytdcihglpfchcmaa
namespace Go.Proofs.Ytdcihglpfchcmaa

/-- 2^64 to the power of n -/
def P64 (n : Nat) : Int := 18446744073709551616 ^ n
theorem P64_0 : P64 0 = 1 := rfl
theorem P64_succ (n : Nat) : P64 (n + 1) = 18446744073709551616 * P64 n := by unfold P64; rw [Int.pow_succ, Int.mul_comm]
theorem P64_add (m n : Nat) : P64 (m + n) = P64 m * P64 n := by unfold P64; rw [Int.pow_add]

theorem uval_append (a b : List Int) : uval (a ++ b) = uval a + P64 a.length * uval b := by
  induction a with
  | nil => simp [uval, P64_0]
  | cons d t ih => rw [List.cons_append, uval, uval, ih, List.length_cons, P64_succ, Int.mul_add, Int.mul_assoc]; omega
theorem uval_take_succ (ds : List Int) (k : Nat) : uval (ds.take (k + 1)) = uval (ds.take k) + P64 k * ds.getD k 0 := by
  rcases Nat.lt_or_ge k ds.length with h | h
  · rw [List.take_succ_eq_append_getElem h, uval_append, List.length_take, Nat.min_eq_left (by omega), getD_in' h]
    simp [uval]
  · rw [List.take_of_length_le (by omega), List.take_of_length_le h, getD_out h]; simp
theorem uval_set {ds : List Int} {j : Nat} (hj : j < ds.length) (v : Int) : uval (ds.set j v) = uval ds + P64 j * (v - ds.getD j 0) := by
  induction ds generalizing j with
  | nil => cases hj
  | cons d t ih =>
    cases j with
    | zero => simp [uval, P64_0]; omega
    | succ j =>
      have hj' : j < t.length := by simpa using hj
      rw [List.set_cons_succ, uval, uval, ih hj', P64_succ, List.getD_cons_succ, Int.mul_add, Int.mul_assoc]; omega
theorem WordsOk.set {ds : List Int} (h : WordsOk ds) {v : Int} (hv : Wd v) (j : Nat) : WordsOk (ds.set j v) := fun x hx => by
  rcases List.mem_or_eq_of_mem_set hx with h' | h'
  · exact h x h'
  · rw [h']; exact hv
theorem WordsOk.get {ws : List Int} (h : WordsOk ws) (i : Nat) : Wd (ws.getD i 0) := by
  by_cases hi : i < ws.length
  · rw [getD_in' hi]; exact h _ (List.getElem_mem hi)
  · rw [getD_out (by omega)]; exact ⟨by decide, by decide⟩

/-- one step of the product: what the two sums with carry make of it -/
theorem mul_step {x y o c : Int} (hx : Wd x) (hy : Wd y) (ho : Wd o) (hc : Wd c) :
    Wd (x * y / 18446744073709551616) ∧ Wd (x * y % 18446744073709551616) ∧
    (0 ≤ (x * y % 18446744073709551616 + o) / 18446744073709551616 ∧ (x * y % 18446744073709551616 + o) / 18446744073709551616 ≤ 1) ∧ Wd ((x * y % 18446744073709551616 + o) % 18446744073709551616) ∧
    Wd (x * y / 18446744073709551616 + (x * y % 18446744073709551616 + o) / 18446744073709551616) ∧
    ((x * y % 18446744073709551616 + o) % 18446744073709551616 + c) % 18446744073709551616 = (x * y + o + c) % 18446744073709551616 ∧
    x * y / 18446744073709551616 + (x * y % 18446744073709551616 + o) / 18446744073709551616 + ((x * y % 18446744073709551616 + o) % 18446744073709551616 + c) / 18446744073709551616 = (x * y + o + c) / 18446744073709551616 ∧
    Wd ((x * y + o + c) / 18446744073709551616) ∧ Wd ((x * y + o + c) % 18446744073709551616) := by
  obtain ⟨x0, x1⟩ := hx
  obtain ⟨y0, y1⟩ := hy
  obtain ⟨o0, o1⟩ := ho
  obtain ⟨c0, c1⟩ := hc
  have h1 : 0 ≤ x * y := Int.mul_nonneg x0 y0
  have h2 : x * y ≤ 18446744073709551615 * 18446744073709551615 := Int.mul_le_mul (by omega) (by omega) y0 (by decide)
  generalize x * y = p at *
  have h3 : p ≤ 340282366920938463426481119284349108225 := h2
  refine ⟨⟨?_, ?_⟩, ⟨?_, ?_⟩, ⟨?_, ?_⟩, ⟨?_, ?_⟩, ⟨?_, ?_⟩, ?_, ?_, ⟨?_, ?_⟩, ⟨?_, ?_⟩⟩ <;> omega

/-- the product so far: all of the first i words, and of the next one as many as k of the other number's -/
structure Prw (xs ys : List Int) (n i k : Nat) (out : List Int) (c : Int) : Prop where
  ok : WordsOk out
  len : out.length = n
  sum : uval out + P64 (i + k) * c = uval (xs.take i) * uval ys + P64 i * (xs.getD i 0 * uval (ys.take k))
  far : ∀ j, i + ys.length ≤ j → out.getD j 0 = 0
  cw : Wd c
theorem Prw.start {xs ys : List Int} {n i : Nat} {out : List Int} (h1 : WordsOk out) (h2 : out.length = n) (h3 : uval out = uval (xs.take i) * uval ys) (h4 : ∀ j, i + ys.length ≤ j → out.getD j 0 = 0) : Prw xs ys n i 0 out 0 :=
  ⟨h1, h2, by rw [h3]; simp [uval], h4, by decide, by decide⟩
theorem Prw.step {xs ys : List Int} {n i k : Nat} {out : List Int} {c x y a : Int} (h : Prw xs ys n i k out c) (dx : WordsOk xs) (dy : WordsOk ys) (hk : k < ys.length) (hn : i + ys.length ≤ n)
    (hx : x = xs.getD i 0) (hy : y = ys.getD k 0) (ha : a = out.getD (i + k) 0) :
    Prw xs ys n i (k + 1) (out.set (i + k) ((x * y + a + c) % 18446744073709551616)) ((x * y + a + c) / 18446744073709551616) := by
  have b := mul_step (hx ▸ dx.get i) (hy ▸ dy.get k) (ha ▸ h.ok.get (i + k)) h.cw
  obtain ⟨_, _, _, _, _, _, _, b1, b2⟩ := b
  refine ⟨h.ok.set b2 _, by rw [List.length_set]; exact h.len, ?_, fun j hj => ?_, b1⟩
  · rw [uval_set (by rw [h.len]; omega), ← ha, uval_take_succ, ← hx, ← hy, ← Nat.add_assoc, P64_succ]
    have e1 := h.sum
    rw [← hx] at e1
    have e3 : 18446744073709551616 * P64 (i + k) * ((x * y + a + c) / 18446744073709551616) = P64 (i + k) * (18446744073709551616 * ((x * y + a + c) / 18446744073709551616)) := by rw [Int.mul_comm 18446744073709551616, Int.mul_assoc]
    have e4 : P64 (i + k) * ((x * y + a + c) % 18446744073709551616 - a) + P64 (i + k) * (18446744073709551616 * ((x * y + a + c) / 18446744073709551616)) = P64 (i + k) * (x * y) + P64 (i + k) * c := by
      rw [← Int.mul_add, ← Int.mul_add]
      have e6 : (x * y + a + c) % 18446744073709551616 - a + 18446744073709551616 * ((x * y + a + c) / 18446744073709551616) = x * y + c := by
        generalize x * y = p at *
        omega
      rw [e6]
    have e5 : P64 i * (x * (uval (ys.take k) + P64 k * y)) = P64 i * (x * uval (ys.take k)) + P64 (i + k) * (x * y) := by
      rw [Int.mul_add, Int.mul_add, P64_add, Int.mul_assoc (P64 i), Int.mul_left_comm x]
    rw [e5, e3]; omega
  · rw [getD_set_ne (by omega)]; exact h.far j hj
theorem Prw.row {xs ys : List Int} {n i : Nat} {out : List Int} {c : Int} (h : Prw xs ys n i ys.length out c) (hn : i + ys.length < n) :
    Prw xs ys n (i + 1) 0 (out.set (i + ys.length) c) 0 := by
  have a0 := h.far _ (Nat.le_refl _)
  refine Prw.start (h.ok.set h.cw _) (by rw [List.length_set]; exact h.len) ?_ fun j hj => ?_
  · rw [uval_set (by rw [h.len]; omega), a0, Int.sub_zero, h.sum, List.take_of_length_le (Nat.le_refl _), uval_take_succ, Int.add_mul, Int.mul_assoc]
  · rw [getD_set_ne (by omega)]; exact h.far j (by omega)
theorem uval_repl (n : Nat) : uval (List.replicate n 0) = 0 := by
  induction n with
  | zero => rfl
  | succ n ih => rw [List.replicate_succ, uval, ih]; rfl
theorem Prw.zero (xs ys : List Int) (n : Nat) : Prw xs ys n 0 0 (List.replicate n 0) 0 := by
  refine Prw.start (fun x hx => by rw [(List.mem_replicate.1 hx).2]; exact ⟨by decide, by decide⟩) (List.length_replicate ..) (by rw [uval_repl]; simp [uval]) fun j _ => ?_
  rcases Nat.lt_or_ge j n with h | h
  · rw [getD_in' (by rw [List.length_replicate]; exact h)]; simp
  · exact getD_out (by rw [List.length_replicate]; exact h)
theorem Prw.all {xs ys : List Int} {n : Nat} {out : List Int} {c : Int} (h : Prw xs ys n xs.length 0 out c) (hc : c = 0) : WordsOk out ∧ uval out = uval xs * uval ys := by
  refine ⟨h.ok, ?_⟩
  have := h.sum
  rw [hc, Int.mul_zero, Int.add_zero, List.take_of_length_le (Nat.le_refl _)] at this
  rw [this]; simp [uval]

/-- eight words: the four high ones are 0 just if the number is below 2^256; then the low ones are its words -/
theorem eight {o0 o1 o2 o3 o4 o5 o6 o7 p : Int} (h : WordsOk [o0, o1, o2, o3, o4, o5, o6, o7]) (hp : uval [o0, o1, o2, o3, o4, o5, o6, o7] = p) :
    eq4 o4 o5 o6 o7 0 0 0 0 = decide (p < b256) ∧ (p < b256 → o0 = wd0 p ∧ o1 = wd1 p ∧ o2 = wd2 p ∧ o3 = wd3 p) := by
  have g0 : Wd o0 := h _ (by simp)
  have g1 : Wd o1 := h _ (by simp)
  have g2 : Wd o2 := h _ (by simp)
  have g3 : Wd o3 := h _ (by simp)
  have g4 : Wd o4 := h _ (by simp)
  have g5 : Wd o5 := h _ (by simp)
  have g6 : Wd o6 := h _ (by simp)
  have g7 : Wd o7 := h _ (by simp)
  have e : p = un4 o0 o1 o2 o3 + b256 * un4 o4 o5 o6 o7 := by
    rw [← hp]; simp only [uval, un4, b64, b128, b192, b256]; omega
  have l := un4_bd g0 g1 g2 g3
  have k := un4_bd g4 g5 g6 g7
  have z : eq4 o4 o5 o6 o7 0 0 0 0 = decide (un4 o4 o5 o6 o7 = 0) := by
    obtain ⟨p4, q4⟩ := g4; obtain ⟨p5, q5⟩ := g5; obtain ⟨p6, q6⟩ := g6; obtain ⟨p7, q7⟩ := g7
    rw [Bool.eq_iff_iff, decide_eq_true_iff]
    unfold eq4 un4 b64 b128 b192
    simp only [Bool.and_eq_true, beq_iff_eq]
    constructor
    · rintro ⟨⟨⟨h0, h1⟩, h2⟩, h3⟩; omega
    · intro h; exact ⟨⟨⟨by omega, by omega⟩, by omega⟩, by omega⟩
  have hz : p < b256 ↔ un4 o4 o5 o6 o7 = 0 := by
    constructor
    · intro hlt
      rcases Int.lt_or_eq_of_le k.1 with h | h
      · have : b256 * 1 ≤ b256 * un4 o4 o5 o6 o7 := Int.mul_le_mul_of_nonneg_left (by omega) (by decide)
        omega
      · exact h.symm
    · intro h; rw [h] at e; omega
  refine ⟨by rw [z, Bool.eq_iff_iff, decide_eq_true_iff, decide_eq_true_iff, hz], fun hlt => ?_⟩
  have e2 : p = un4 o0 o1 o2 o3 := by rw [e, hz.1 hlt, Int.mul_zero, Int.add_zero]
  rw [e2]
  exact ⟨(wd0_un4 g0).symm, (wd1_un4 g0 g1).symm, (wd2_un4 g0 g1 g2).symm, (wd3_un4 g0 g1 g2 g3).symm⟩
end Go.Proofs.Ytdcihglpfchcmaa
namespace Go.Proofs.Ytdcihglpfchcmaa
open Go.RowKit

def dw (ds : List Int) : List Value := ds.map (Value.int .u64)
theorem dw_get {ds : List Int} {j : Nat} (h : j < ds.length) : (dw ds).toArray[j]? = some (.int .u64 (ds.getD j 0)) := by
  unfold dw; simp [h]
theorem dw_put (ds : List Int) (j : Nat) (v : Int) : (dw ds).toArray.setIfInBounds j (.int .u64 v) = (dw (ds.set j v)).toArray := by
  unfold dw; rw [List.setIfInBounds_toArray, List.map_set]
/-- the four words of a number -/
def ws4 (x : Int) : List Int := [wd0 x, wd1 x, wd2 x, wd3 x]
theorem ws4_ok (x : Int) : WordsOk (ws4 x) := by
  intro d hd
  simp only [ws4, List.mem_cons, List.not_mem_nil, or_false] at hd
  rcases hd with rfl | rfl | rfl | rfl
  · exact wd0_Wd x
  · exact wd1_Wd x
  · exact wd2_Wd x
  · exact wd3_Wd x
theorem uval_ws4 (x : Int) : uval (ws4 x) = x % b256 := by
  rw [← un4_wd]
  simp only [ws4, uval, un4, b64, b128, b192]; omega
theorem Var.at {w : World} {b : Nat} {x : Int} (h : Var w b x) {i : Nat} (hi : i < 4) : w.cell? ⟨b, i, none⟩ = some (.int .u64 ((ws4 x).getD i 0)) := by
  rw [Blk.cell h]
  match i, hi with
  | 0, _ => rfl
  | 1, _ => rfl
  | 2, _ => rfl
  | 3, _ => rfl

/-- where the product stands -/
structure MulW (w : World) (a b : Int) (b1 b2 b3 : Nat) (out : List Int) (wr : World) : Prop where
  ka : Var wr w.heap.size a
  kb : Var wr (w.heap.size + 1) b
  k0 : Var wr (w.heap.size + 1 + 1) 0
  kx : Var wr b1 (sz a)
  ky : Var wr b2 (sz b)
  ko : Blk wr b3 (dw out).toArray 83
  len : out.length = 8
  l1 : b1 < b3
  l2 : b2 < b3
  l3 : w.heap.size + 1 + 1 < b3
  below : Below w.heap.size w wr
theorem MulW.of {w : World} {a b : Int} {b1 b2 b3 : Nat} {out : List Int} {wr w' : World} (h : MulW w a b b1 b2 b3 out wr) (hn : Below wr.heap.size wr w') : MulW w a b b1 b2 b3 out w' :=
  ⟨h.ka.of hn, h.kb.of hn, h.k0.of hn, h.kx.of hn, h.ky.of hn, h.ko.of hn, h.len, h.l1, h.l2, h.l3, h.below.trans (hn.mono h.below.size)⟩
theorem MulW.put {w : World} {a b : Int} {b1 b2 b3 : Nat} {out : List Int} {wr : World} (h : MulW w a b b1 b2 b3 out wr) (j : Nat) (v : Int) : MulW w a b b1 b2 b3 (out.set j v) (wr.setCell ⟨b3, j, none⟩ (.int .u64 v)) := by
  have h1 := h.l1; have h2 := h.l2; have h3 := h.l3
  exact ⟨h.ka.set (by omega) _ _ _, h.kb.set (by omega) _ _ _, h.k0.set (by omega) _ _ _, h.kx.set (by omega) _ _ _, h.ky.set (by omega) _ _ _, by rw [← dw_put]; exact Blk.put h.ko _ _, by rw [List.length_set]; exact h.len, h1, h2, h3, h.below.setCell (by show _ ≤ b3; omega) _⟩
theorem MulW.outc {w : World} {a b : Int} {b1 b2 b3 : Nat} {out : List Int} {wr : World} (h : MulW w a b b1 b2 b3 out wr) {j : Nat} (hj : j < 8) : wr.cell? ⟨b3, j, none⟩ = some (.int .u64 (out.getD j 0)) := by
  rw [h.ko.cell]; exact dw_get (by rw [h.len]; exact hj)

@[go_sem] theorem run_eq23 (a0 a1 a2 a3 b0 b1 b2 b3 : Int) (w : World) :
    (Op.equalIn 10000 53 (.agg #[.int .u64 a0, .int .u64 a1, .int .u64 a2, .int .u64 a3]) (.agg #[.int .u64 b0, .int .u64 b1, .int .u64 b2, .int .u64 b3])).run Try.prog w = .ok (eq4 a0 a1 a2 a3 b0 b1 b2 b3) w := by
  have hu : Try.prog.underlying 53 = some (.array 4 52) := by kernel_rfl
  have hs : ∀ w, (sizeOf 52).run Try.prog w = .ok 1 w := fun w => by kernel_rfl
  have he : ∀ (a b : Int) w, (Op.equalIn 9999 52 (.int .u64 a) (.int .u64 b)).run Try.prog w = .ok (a == b) w := fun a b w => run_equalIn_int w 9998 _ .u64 .u64 a b (by kernel_rfl)
  have hp : ∀ (c : Array Value) (i : Nat) (v : Value) w, c[i]? = some v → (part 52 c i).run Try.prog w = .ok v w := by
    intro c i v w h
    have ha : (isAgg 52).run Try.prog w = .ok false w := by kernel_rfl
    unfold part
    simp [Sem.run_bind, ha, h]
  show (Op.equalIn (9999 + 1) _ _ _).run _ _ = _
  unfold Op.equalIn
  simp only [Sem.run_bind, run_underlying hu, Result.andThen_ok, hs]
  simp [List.range', he, hp, Sem.run_bind]
  unfold eq4
  by_cases h0 : a0 = b0 <;> by_cases h1 : a1 = b1 <;> by_cases h2 : a2 = b2 <;> by_cases h3 : a3 = b3 <;> simp [h0, h1, h2, h3]
@[go_sem] theorem run_arrayAt4 (a : Option Addr) (c : Nat) (w : World) : (Instr.arrayAt 53 (.slice a 4 c)).run Try.prog w = .ok (.pointer a) w := by
  have hu : Try.prog.underlying 53 = some (.array 4 52) := by kernel_rfl
  unfold Instr.arrayAt
  simp only [Sem.run_bind, run_underlying hu, Result.andThen_ok]
  rfl
@[go_sem] theorem run_arrayAtI (a : Option Addr) (c : Nat) (w : World) : (Instr.arrayAt 54 (.slice a 4 c)).run Try.prog w = .ok (.pointer a) w := by
  have hu : Try.prog.underlying 54 = some (.array 4 52) := by kernel_rfl
  unfold Instr.arrayAt
  simp only [Sem.run_bind, run_underlying hu, Result.andThen_ok]
  rfl
theorem signedk_is (x : Int) (b k : Bool) (hk : sgB x b = k) (w : World) :
    Calls Try.prog 60 #[wI x, .bool b] w fun e w' => e = .returned (.tuple #[wI (bif k then sgV x b else 0), .bool k]) ∧ Below w.heap.size w w' := hk ▸ signed_any x b w
theorem below_of_eq {w w' : World} (h : w = w') : Below w.heap.size w w' := h ▸ Below.refl _ _
theorem add64_0 {l o l1 m1 : Int} (hl : Wd l) (ho : Wd o) (h1 : l1 = (l + o) % 18446744073709551616) (h2 : m1 = (l + o) / 18446744073709551616) (w : World) : (callFunc 59 #[.int .u64 l, .int .u64 o, .int .u64 0]).run Try.prog w = .ok (.value (.tuple #[.int .u64 l1, .int .u64 m1])) w := by
  rw [add64 l o 0 hl ho (by decide) (by decide), Int.add_zero, ← h1, ← h2]

set_option maxRecDepth 100000 in
set_option maxHeartbeats 4000000 in
theorem Mul_go (a b : Int) (w : World) (u : Bool) (hu : (ng a == ng b) = !u) (P : Int) (hP : sz a % b256 * (sz b % b256) = P) (z : Bool) (hz : decide (P < b256) = z) (s : Bool) (hs : sgB P u = s) :
    Calls Try.prog 43 #[wI a, wI b] w fun e w' => e = .returned (.tuple #[wI (bif z && s then sgV P u else 0), .bool (z && s)]) ∧ Below w.heap.size w w' := by
  have HU := Lib.hid hu
  have HP := Lib.hid hP
  have HZ := Lib.hid hz
  have HS := Lib.hid hs
  clear hu hP hz hs
  go_enter Try.func43, Try.ntmps43
  go_wp2_with fail
  refine name_world ?_
  intro W hW
  have ka : Var W w.heap.size a := by rw [hW]; exact ((Blk.new _ _ _).alloc _).alloc _
  have kb : Var W (w.heap.size + 1) b := by rw [hW]; exact (Blk.new1 _ _ _ _).alloc _
  have k0 : Var W (w.heap.size + 1 + 1) 0 := by rw [hW]; exact Blk.new2 _ _ _ _ _
  have hb0 : Below w.heap.size w W := by rw [hW]; exact (((Below.refl _ _).alloc (Nat.le_refl _) _).alloc (by simp) _).alloc (by simp; omega) _
  clear hW
  have ca := Var.c ka
  have cb := Var.c kb
  have la := ka.lt
  have lb := kb.lt
  have KA := Lib.hid ka
  have KB := Lib.hid kb
  have K0 := Lib.hid k0
  clear ka kb k0
  refine wp_region_FG2 6 4 5 [(0, 0), (0, 2), (1, 1), (1, 3)] [(3, 6), (3, 7)] (by kernel_rfl) (by kernel_rfl) (fun _ _ d _ _ => by cases d <;> exact Iff.rfl) rfl rfl rfl allocI rfl rfl rfl allocI rfl ?_
  have hb : Below W.heap.size W W.drew := (Below.refl _ _).drew
  iterate 2
    refine wpFG_take0 rfl rfl ?_
    go_big_quiet_step (rfl)
    refine wpQuiet_nil ?_
  refine wpFG_do rfl ?_
  intro w1 hg K hK
  replace hb := hb.trans (hg.mono hb.size)
  clear hg
  go_wp2_with ((go_at_call 57; refine (size_any _ _).mono ?_; rintro e w2 ⟨rfl, hn⟩))
  refine hK.out _ _ hn ?_
  replace hb := hb.trans (hn.mono hb.size)
  clear hK K
  clear hn
  refine wpFG_do rfl ?_
  intro w1 hg K hK
  replace hb := hb.trans (hg.mono hb.size)
  clear hg
  go_wp2_with ((go_at_call 57; refine (size_any _ _).mono ?_; rintro e w2 ⟨rfl, hn⟩))
  refine hK.out _ _ hn ?_
  replace hb := hb.trans (hn.mono hb.size)
  clear hK K
  clear hn
  refine wpFG_nil ?_
  clear hb
  intro w1 hg hb b1 b2 hne lb1 nb1 lb2 nb2
  clear hg
  simp only [Act.put, ptrTo, List.setIfInBounds_toArray, List.set_cons_succ, List.set_cons_zero]
  have c1 := Var.c (show Var w1 b1 0 from nb1)
  have f1 := Var.f (show Var w1 b1 0 from nb1)
  have c2 := Var.c (show Var w1 b2 0 from nb2)
  have f2 := Var.f (show Var w1 b2 0 from nb2)
  clear ca cb la lb
  refine wpG_do3 rfl ?_
  intro K hK
  go_wp2_with (fail)
  refine hK.out _ _ ?_
  clear hK K
  refine wpG_do3 rfl ?_
  intro K hK
  go_wp2_with (fail)
  refine hK.out _ _ ?_
  clear hK K
  refine wpG_nil ?_
  refine list_world ?_
  intro V hV
  have g1 : Var w1 b1 0 := nb1
  have g2 : Var w1 b2 0 := nb2
  have h12 : b1 ≠ b2 := hne
  have na : w.heap.size ≠ b1 ∧ w.heap.size ≠ b2 := by have := KA.out.lt; omega
  have nb : w.heap.size + 1 ≠ b1 ∧ w.heap.size + 1 ≠ b2 := by have := KB.out.lt; omega
  have n0 : w.heap.size + 1 + 1 ≠ b1 ∧ w.heap.size + 1 + 1 ≠ b2 := by have := K0.out.lt; omega
  have hge1 : w.heap.size ≤ b1 := Nat.le_trans hb0.size lb1
  have hge2 : w.heap.size ≤ b2 := Nat.le_trans hb0.size lb2
  have kx : Var V b1 (sz a) := by rw [hV]; exact Blk.set4 (Var.put4 g1 _) h12 _ _ _ _
  have ky : Var V b2 (sz b) := by rw [hV]; exact Var.put4 (Blk.set4 g2 h12.symm _ _ _ _) _
  have ka : Var V w.heap.size a := by rw [hV]; exact Blk.set4 (Blk.set4 (KA.out.of hb) na.1 _ _ _ _) na.2 _ _ _ _
  have kb : Var V (w.heap.size + 1) b := by rw [hV]; exact Blk.set4 (Blk.set4 (KB.out.of hb) nb.1 _ _ _ _) nb.2 _ _ _ _
  have k0 : Var V (w.heap.size + 1 + 1) 0 := by rw [hV]; exact Blk.set4 (Blk.set4 (K0.out.of hb) n0.1 _ _ _ _) n0.2 _ _ _ _
  have hbV : Below w.heap.size w V := by rw [hV]; exact below_set4 (below_set4 (hb0.trans (hb.mono hb0.size)) hge1 _ _ _ _) hge2 _ _ _ _
  clear hV g1 g2 nb1 nb2 c1 f1 c2 f2 lb1 lb2 hb KA KB K0 hb0 na nb n0 hge1 hge2 h12 hne
  go_wp2_with fail
  refine name_world ?_
  intro W hW
  have hd0 : MulW w a b b1 b2 V.heap.size (List.replicate 8 0) W := by
    rw [hW]
    exact ⟨ka.alloc _, kb.alloc _, k0.alloc _, kx.alloc _, ky.alloc _, Blk.new _ _ _, rfl, kx.lt, ky.lt, k0.lt, hbV.alloc hbV.size _⟩
  clear hW ka kb k0 kx ky hbV
  obtain ⟨b3, hb3⟩ : ∃ b3, b3 = V.heap.size := ⟨_, rfl⟩
  rw [← hb3] at hd0 ⊢
  clear hb3 V
  go_loopw [19] (fun i wr => ∃ (k : Nat) (out : List Int), k ≤ 4 ∧ i = .int .i64 k ∧ Hid (Prw (ws4 (sz a)) (ws4 (sz b)) 8 k 0 out 0) ∧ MulW w a b b1 b2 b3 out wr) (fun i _ => 4 - (intOf i).toNat)
  case atStart => exact ⟨0, _, Nat.zero_le _, rfl, Prw.zero _ _ _, hd0⟩
  case round =>
    clear hd0 W
    rename World => wr
    obtain ⟨i, out, hi, rfl, hp, hd⟩ := hrel
    by_cases h1 : i < 4
    · have ha4 : (i : Int) < 4 := by omega
      have HD := Lib.hid hd
      clear hd
      go_wp2_with fail
      obtain ⟨wo, rfl⟩ : ∃ wo : World, wo = wr := ⟨_, rfl⟩
      have hd := HD.out
      clear HD
      go_loopw [10, 22] (fun c k wr => ∃ (j : Nat) (cv : Int) (out : List Int), j ≤ 4 ∧ k = .int .i64 j ∧ c = .int .u64 cv ∧ Hid (Prw (ws4 (sz a)) (ws4 (sz b)) 8 i j out cv) ∧ MulW w a b b1 b2 b3 out wr) (fun _ k _ => 4 - (intOf k).toNat)
      case atStart => exact ⟨0, 0, out, Nat.zero_le _, rfl, rfl, hp, hd⟩
      case round =>
        clear hd hp
        rename World => wi
        obtain ⟨j, cv, out, hj, rfl, rfl, hp, hd⟩ := hrel
        by_cases h2 : j < 4
        · obtain ⟨x, hx⟩ : ∃ x, x = (ws4 (sz a)).getD i 0 := ⟨_, rfl⟩
          obtain ⟨y, hy⟩ : ∃ y, y = (ws4 (sz b)).getD j 0 := ⟨_, rfl⟩
          obtain ⟨o, ho⟩ : ∃ o, o = out.getD (i + j) 0 := ⟨_, rfl⟩
          have hst := hp.out.step (ws4_ok _) (ws4_ok _) (show j < 4 from h2) (show i + 4 ≤ 8 by omega) hx hy ho
          have wx : Wd x := hx ▸ (ws4_ok _).get i
          have wy : Wd y := hy ▸ (ws4_ok _).get j
          have wo' : Wd o := ho ▸ hp.out.ok.get _
          have wc := hp.out.cw
          obtain ⟨m0, m1, m2, m3, m4, m5, m6, m7, m8⟩ := mul_step wx wy wo' wc
          have c1 := hd.kx.at h1
          have c2 := hd.ky.at h2
          have c3 := hd.outc (j := i + j) (by omega)
          rw [← hx] at c1
          rw [← hy] at c2
          rw [← ho] at c3
          obtain ⟨hi', hhi⟩ : ∃ h, h = x * y / 18446744073709551616 := ⟨_, rfl⟩
          obtain ⟨l, hl⟩ : ∃ h, h = x * y % 18446744073709551616 := ⟨_, rfl⟩
          rw [← hl] at m1 m2 m3 m4 m5 m6
          rw [← hhi] at m0 m4 m6
          obtain ⟨l1, hl1⟩ : ∃ h, h = (l + o) % 18446744073709551616 := ⟨_, rfl⟩
          obtain ⟨mo, hmo⟩ : ∃ h, h = (l + o) / 18446744073709551616 := ⟨_, rfl⟩
          have A1 := fun w => add64_0 m1 wo' hl1 hmo w
          rw [← hl1] at m3 m5 m6
          rw [← hmo] at m2 m4 m6
          obtain ⟨l2, hl2⟩ : ∃ h, h = (l1 + cv) % 18446744073709551616 := ⟨_, rfl⟩
          obtain ⟨mp, hmp⟩ : ∃ h, h = (l1 + cv) / 18446744073709551616 := ⟨_, rfl⟩
          have A2 := fun w => add64_0 m3 wc hl2 hmp w
          rw [← hl2] at m5
          rw [← hmp] at m6
          obtain ⟨h1', hh1⟩ : ∃ h, h = hi' + mo := ⟨_, rfl⟩
          obtain ⟨h2', hh2⟩ : ∃ h, h = h1' + mp := ⟨_, rfl⟩
          rw [← hh1] at m4 m6
          rw [← hh2] at m6
          rw [← m6, ← m5] at hst
          rw [← m6] at m7
          have W1 : IntKind.u64.wrap (hi' + mo) = h1' := by rw [← hh1]; exact IntWalk.u64_in _ (by have := m4.lo; have := m4.hi; omega)
          have W2 : IntKind.u64.wrap (h1' + mp) = h2' := by rw [← hh2]; exact IntWalk.u64_in _ (by have := m7.lo; have := m7.hi; omega)
          have TM := fun w => mul64_any x y wx wy w
          rw [← hhi, ← hl] at TM
          have HM := Lib.hid TM
          have OE := Lib.hid ho.symm
          have ST := Lib.hid hst
          have lx := hd.kx.lt
          have ly := hd.ky.lt
          have HD := Lib.hid hd
          clear hst hx hy ho wx wy wo' wc m0 m1 m2 m3 m4 m5 m6 m7 m8 hhi hl hl1 hmo hl2 hmp hh1 hh2 TM hd hp
          go_wp2_with fail
          have hb4 : (j : Int) < 4 := by omega
          refine wp_region_up wi.heap.size 11 [(true, 0), (true, 1), (true, 2), (true, 3), (true, 4), (true, 5), (false, 6), (true, 7), (true, 8), (true, 9), (true, 10)] (by kernel_rfl) (by kernel_rfl) (fun _ _ d _ _ h => by cases d <;> exact h) ?_
          have hb : Below wi.heap.size wi wi.drew := (Below.refl _ _).drew
          iterate 6
            refine wpS_takeL rfl rfl ?_
            go_big_quiet_step (rfl)
            refine wpQuiet_nil ?_
          refine wpS_doL rfl ?_
          intro K hK
          go_wp2_with ((go_at_call 58; refine (HM.out _).mono ?_; rintro e w2 ⟨rfl, hw⟩; have hn := below_of_eq hw))
          replace hb := hb.trans (hn.mono hb.size)
          refine hK.out _ _ (up_iff.2 hb) ?_
          clear hK K
          clear hn
          iterate 4
            refine wpS_takeL rfl rfl ?_
            go_big_quiet_step (rfl)
            refine wpQuiet_nil ?_
          refine wpS_nil ?_
          simp only [List.drop_succ_cons, List.drop_zero]
          have hd := HD.out.of hb
          clear c1 c2 c3 HM hb HD lx ly
          have c3 := hd.outc (j := i + j) (by omega)
          rw [OE.out] at c3
          have f3 := hd.ko.free (i + j)
          have HD := Lib.hid hd
          clear hd
          go_wp2
          go_roundw
          case rel => exact ⟨j + 1, h2', _, by omega, by go_num, rfl, ST.out, HD.out.put _ _⟩
          case measure => simp [intOf]; omega
        · have hj4 : j = 4 := by omega
          subst hj4
          have hst := hp.out.row (show i + 4 < 8 by omega)
          have c3 := hd.outc (j := i + 4) (by omega)
          have f3 := hd.ko.free (i + 4)
          have ST := Lib.hid hst
          have HD := Lib.hid hd
          clear hst hp hd
          go_wp2
          go_roundw
          case rel => exact ⟨i + 1, _, by omega, by go_num, ST.out, HD.out.put _ _⟩
          case measure => simp [intOf]; omega
    · have hi4 : i = 4 := by omega
      subst hi4
      obtain ⟨p1, p2⟩ := hp.out.all rfl
      rw [uval_ws4, uval_ws4, HP.out] at p2
      have hlen := hd.len
      match out, hlen with
      | [o0, o1, o2, o3, o4, o5, o6, o7], _ =>
        obtain ⟨e1, e2⟩ := eight p1 p2
        rw [HZ.out] at e1
        have kc := hd.ko
        have co : (wr.cell? ⟨b3, 0, none⟩ = some (.int .u64 o0) ∧ wr.cell? ⟨b3, 1, none⟩ = some (.int .u64 o1) ∧ wr.cell? ⟨b3, 2, none⟩ = some (.int .u64 o2) ∧ wr.cell? ⟨b3, 3, none⟩ = some (.int .u64 o3)) ∧ (wr.cell? ⟨b3, 4, none⟩ = some (.int .u64 o4) ∧ wr.cell? ⟨b3, 5, none⟩ = some (.int .u64 o5) ∧ wr.cell? ⟨b3, 6, none⟩ = some (.int .u64 o6) ∧ wr.cell? ⟨b3, 7, none⟩ = some (.int .u64 o7)) := ⟨⟨kc.cell 0, kc.cell 1, kc.cell 2, kc.cell 3⟩, kc.cell 4, kc.cell 5, kc.cell 6, kc.cell 7⟩
        have E2 := Lib.hid e2
        have HD := Lib.hid hd
        clear p1 p2 hp kc e2 hd
        cases z
        · have k0 := HD.out.k0
          have c0 := Var.c k0
          have f0 := Var.f k0
          go_wp2
          refine post_world ?_
          intro Wf hWf
          have kf : Var Wf (w.heap.size + 1 + 1) 0 := by rw [hWf]; exact Var.put4 k0 0
          have hbf : Below w.heap.size w Wf := by rw [hWf]; exact below_set4 HD.out.below (by omega) _ _ _ _
          have c := Var.c kf
          clear hWf c0 f0 co
          simp [bodyPost, results, Try.results43, go_sem, c]
          exact hbf
        · have hP : P < b256 := of_decide_eq_true HZ.out
          obtain ⟨q0, q1, q2, q3⟩ := E2.out hP
          subst q0
          subst q1
          subst q2
          subst q3
          clear hP E2
          go_wp2_with fail
          have ca := Var.c HD.out.ka
          have cb := Var.c HD.out.kb
          have la := HD.out.ka.lt
          have lb := HD.out.kb.lt
          have lo := HD.out.ko.lt
          have hu := HU.out
          have co1 := co.1
          clear co
          refine wp_region_up wr.heap.size 11 [(true, 0), (true, 1), (true, 2), (true, 3), (true, 5), (false, 4), (false, 6), (true, 7), (false, 8), (true, 9), (true, 10)] (by kernel_rfl) (by kernel_rfl) (fun _ _ d _ _ h => by cases d <;> exact h) ?_
          have hb : Below wr.heap.size wr wr.drew := (Below.refl _ _).drew
          iterate 5
            refine wpS_takeL rfl rfl ?_
            go_big_quiet_step (rfl)
            refine wpQuiet_nil ?_
          refine wpS_doL rfl ?_
          intro K hK
          go_wp2_with ((first | (go_at_call 41; refine (negative_any _ _).mono ?_; rintro e w2 ⟨rfl, hn⟩) | (go_at_call 60; refine (signedk_is P u s HS.out _).mono ?_; rintro e w3 ⟨rfl, hn⟩)))
          replace hb := hb.trans (hn.mono hb.size)
          refine hK.out _ _ (up_iff.2 hb) ?_
          clear hK K
          clear hn
          refine wpS_doL rfl ?_
          intro K hK
          go_wp2_with ((first | (go_at_call 41; refine (negative_any _ _).mono ?_; rintro e w2 ⟨rfl, hn⟩) | (go_at_call 60; refine (signedk_is P u s HS.out _).mono ?_; rintro e w3 ⟨rfl, hn⟩)))
          replace hb := hb.trans (hn.mono hb.size)
          refine hK.out _ _ (up_iff.2 hb) ?_
          clear hK K
          clear hn
          refine wpS_takeL rfl rfl ?_
          go_big_quiet_step (rfl)
          refine wpQuiet_nil ?_
          refine wpS_doL rfl ?_
          intro K hK
          go_wp2_with ((first | (go_at_call 41; refine (negative_any _ _).mono ?_; rintro e w2 ⟨rfl, hn⟩) | (go_at_call 60; refine (signedk_is P u s HS.out _).mono ?_; rintro e w3 ⟨rfl, hn⟩)))
          replace hb := hb.trans (hn.mono hb.size)
          refine hK.out _ _ (up_iff.2 hb) ?_
          clear hK K
          clear hn
          iterate 2
            refine wpS_takeL rfl rfl ?_
            go_big_quiet_step (rfl)
            refine wpQuiet_nil ?_
          refine wpS_nil ?_
          simp only [List.drop_succ_cons, List.drop_zero]
          have k0 : Var w3 (w.heap.size + 1 + 1) 0 := HD.out.k0.of hb
          have hbb := HD.out.below.trans (hb.mono HD.out.below.size)
          clear ca cb la lb lo hu co1 hb HD
          have c0 := Var.c k0
          have f0 := Var.f k0
          have K0 := Lib.hid k0
          clear k0
          go_wp2
          refine post_world ?_
          intro Wf hWf
          have kf : Var Wf (w.heap.size + 1 + 1) (bif s then sgV P u else 0) := by rw [hWf]; exact Var.put4 K0.out _
          have hbf : Below w.heap.size w Wf := by rw [hWf]; exact below_set4 hbb (by omega) _ _ _ _
          have c := Var.c kf
          clear hWf c0 f0
          simp [bodyPost, results, Try.results43, go_sem, c]
          exact hbf

theorem mul_spec {a b : Int} (ia : InI a) (ib : InI b) (u : Bool) (hu : (ng a != ng b) = u) (P : Int) (hP : sz a * sz b = P) :
    (decide (P < b256) && sgB P u) = okI (a * b) ∧ (bif u then -P else P) = a * b ∧ 0 ≤ P := by
  have ha := sz_in ia
  have hb := sz_in ib
  have na := ng_in ia
  have nb := ng_in ib
  have hp0 : 0 ≤ P := by rw [← hP, ha, hb]; exact Int.mul_nonneg (by omega) (by omega)
  have hv : (bif u then -P else P) = a * b := by
    rw [← hu, ← hP, ha, hb, na, nb]
    rcases Int.lt_or_le a 0 with h1 | h1 <;> rcases Int.lt_or_le b 0 with h2 | h2
    · rw [Int.ofNat_natAbs_of_nonpos (by omega), Int.ofNat_natAbs_of_nonpos (by omega)]; simp [h1, h2, Int.neg_mul_neg]
    · rw [Int.ofNat_natAbs_of_nonpos (by omega), Int.natAbs_of_nonneg h2]; simp [h1, Int.not_lt.2 h2, Int.neg_mul]
    · rw [Int.natAbs_of_nonneg h1, Int.ofNat_natAbs_of_nonpos (by omega)]; simp [h2, Int.not_lt.2 h1, Int.mul_neg]
    · rw [Int.natAbs_of_nonneg h1, Int.natAbs_of_nonneg h2]; simp [Int.not_lt.2 h1, Int.not_lt.2 h2]
  refine ⟨?_, hv, hp0⟩
  rw [← hv]
  rw [Bool.eq_iff_iff]
  unfold okI
  rw [Bool.and_eq_true, decide_eq_true_iff, decide_eq_true_iff]
  unfold sgB InI
  cases u
  · rw [cond_false, cond_false, Bool.not_eq_true', ← Bool.not_eq_true, ng_iff]
    unfold b255 b256 at *; omega
  · rw [cond_true, cond_true, Bool.or_eq_true, ng_iff, eq4_0, decide_eq_true_iff]
    unfold b255 b256 at *; omega

theorem Mul_ok (x y : Int) (w : World) (ix : InI x) (iy : InI y) : Calls Try.prog 43 #[wI x, wI y] w fun e w' => e = .returned (.tuple #[wI (bif okI (x * y) then x * y else 0), .bool (okI (x * y))]) ∧ Below w.heap.size w w' := by
  obtain ⟨u, hu⟩ : ∃ u, (ng x != ng y) = u := ⟨_, rfl⟩
  obtain ⟨P, hP⟩ : ∃ P, sz x * sz y = P := ⟨_, rfl⟩
  obtain ⟨h1, h2, h3⟩ := mul_spec ix iy u hu P hP
  have b1 := sz_bd ix
  have b2 := sz_bd iy
  have e1 : sz x % b256 = sz x := Int.emod_eq_of_lt b1.1 (by unfold b255 b256 at *; omega)
  have e2 : sz y % b256 = sz y := Int.emod_eq_of_lt b2.1 (by unfold b255 b256 at *; omega)
  have T := Mul_go x y w u (by rw [← hu]; cases ng x <;> cases ng y <;> rfl) P (by rw [e1, e2]; exact hP) _ rfl _ rfl
  rw [h1] at T
  unfold sgV at T
  rw [h2] at T
  exact T
theorem Mul_is (x y : Int) (o : Bool) (ho : okI (x * y) = o) (p : Int) (hp : (bif o then x * y else 0) = p) (w : World) (ix : InI x) (iy : InI y) :
    Calls Try.prog 43 #[wI x, wI y] w fun e w' => e = .returned (.tuple #[wI p, .bool o]) ∧ Below w.heap.size w w' := by
  subst ho; subst hp; exact Mul_ok x y w ix iy
theorem Add_is (x y : Int) (o : Bool) (ho : okI (x + y) = o) (p : Int) (hp : (bif o then x + y else 0) = p) (w : World) (ix : InI x) (iy : InI y) :
    Calls Try.prog 42 #[wI x, wI y] w fun e w' => e = .returned (.tuple #[wI p, .bool o]) ∧ Below w.heap.size w w' := by
  subst ho; subst hp; exact Add_ok x y w ix iy
theorem Sub_is (x y : Int) (o : Bool) (ho : okI (x - y) = o) (p : Int) (hp : (bif o then x - y else 0) = p) (w : World) (ix : InI x) (iy : InI y) :
    Calls Try.prog 54 #[wI x, wI y] w fun e w' => e = .returned (.tuple #[wI p, .bool o]) ∧ Below w.heap.size w w' := by
  subst ho; subst hp; exact Sub_ok x y w ix iy
end Go.Proofs.Ytdcihglpfchcmaa
namespace Go.Proofs.Ytdcihglpfchcmaa
open Go.RowKit

/-- the Go value of a point -/
abbrev pC (x y : Int) : Array Value := #[.int .i64 x, .int .i64 y]
abbrev pI (x y : Int) : Value := .agg (pC x y)
/-- may a number be a coordinate? -/
def inC (x : Int) : Bool := decide (-2199023255552 ≤ x) && decide (x ≤ 2199023255552)

theorem within_any (x : Int) (w : World) : Calls Try.prog 45 #[.int .i64 x] w fun e w' => e = .returned (.bool (inC x)) ∧ Below w.heap.size w w' := by
  unfold inC
  by_cases h : -2199023255552 ≤ x <;> by_cases h2 : x ≤ 2199023255552
  all_goals
    go_enter Try.func45, Try.ntmps45
    go_wp2
    go_ret
    exact ⟨by simp [h, h2], Below.refl _ _⟩

set_option maxRecDepth 100000 in
set_option maxHeartbeats 1000000 in
theorem pttimes_any (x y : Int) (o : Bool) (ho : okI (x * y) = o) (p : Int) (hp : (bif o then x * y else 0) = p) (w : World) (ix : InI x) (iy : InI y) :
    Calls Try.prog 26 #[wI x, wI y] w fun e w' => e = .returned (wI p) ∧ Below w.heap.size w w' := by
  go_enter Try.func26, Try.ntmps26
  go_wp2_with fail
  refine calls_w ?_
  intro W hW
  have kz : Var W (w.heap.size + 1 + 1) 0 := by rw [hW]; exact Blk.new2 _ _ _ _ _
  have hb0 : Below w.heap.size w W := by rw [hW]; exact below_a3 _ _ _ _
  clear hW
  refine (Mul_is x y o ho p hp _ ix iy).mono ?_
  rintro e u1 ⟨rfl, hn⟩
  replace kz : Var u1 _ _ := kz.of hn
  replace hb0 := hb0.trans (hn.mono hb0.size)
  clear hn
  have cz := Var.c kz
  have fz := Var.f kz
  have lz := kz.lt
  have KZ := Lib.hid kz
  clear kz
  go_wp2
  refine post_world ?_
  intro Wf hWf
  have kf : Var Wf (w.heap.size + 1 + 1) p := by rw [hWf]; exact (Var.put4 KZ.out p).alloc _
  have hbf : Below w.heap.size w Wf := by rw [hWf]; exact (below_set4 hb0 (by omega) (.int .u64 (wd0 p)) (.int .u64 (wd1 p)) (.int .u64 (wd2 p)) (.int .u64 (wd3 p))).alloc (by simp only [size_set]; exact hb0.size) _
  have c := Var.c kf
  clear hWf cz
  simp [bodyPost, results, Try.results26, go_sem, c]
  exact hbf
set_option maxRecDepth 100000 in
set_option maxHeartbeats 1000000 in
theorem ptless_any (x y : Int) (o : Bool) (ho : okI (x - y) = o) (p : Int) (hp : (bif o then x - y else 0) = p) (w : World) (ix : InI x) (iy : InI y) :
    Calls Try.prog 39 #[wI x, wI y] w fun e w' => e = .returned (wI p) ∧ Below w.heap.size w w' := by
  go_enter Try.func39, Try.ntmps39
  go_wp2_with fail
  refine calls_w ?_
  intro W hW
  have kz : Var W (w.heap.size + 1 + 1) 0 := by rw [hW]; exact Blk.new2 _ _ _ _ _
  have hb0 : Below w.heap.size w W := by rw [hW]; exact below_a3 _ _ _ _
  clear hW
  refine (Sub_is x y o ho p hp _ ix iy).mono ?_
  rintro e u1 ⟨rfl, hn⟩
  replace kz : Var u1 _ _ := kz.of hn
  replace hb0 := hb0.trans (hn.mono hb0.size)
  clear hn
  have cz := Var.c kz
  have fz := Var.f kz
  have lz := kz.lt
  have KZ := Lib.hid kz
  clear kz
  go_wp2
  refine post_world ?_
  intro Wf hWf
  have kf : Var Wf (w.heap.size + 1 + 1) p := by rw [hWf]; exact (Var.put4 KZ.out p).alloc _
  have hbf : Below w.heap.size w Wf := by rw [hWf]; exact (below_set4 hb0 (by omega) (.int .u64 (wd0 p)) (.int .u64 (wd1 p)) (.int .u64 (wd2 p)) (.int .u64 (wd3 p))).alloc (by simp only [size_set]; exact hb0.size) _
  have c := Var.c kf
  clear hWf cz
  simp [bodyPost, results, Try.results39, go_sem, c]
  exact hbf
set_option maxRecDepth 100000 in
set_option maxHeartbeats 1000000 in
theorem ptplus_any (x y : Int) (o : Bool) (ho : okI (x + y) = o) (p : Int) (hp : (bif o then x + y else 0) = p) (w : World) (ix : InI x) (iy : InI y) :
    Calls Try.prog 25 #[wI x, wI y] w fun e w' => e = .returned (wI p) ∧ Below w.heap.size w w' := by
  go_enter Try.func25, Try.ntmps25
  go_wp2_with fail
  refine calls_w ?_
  intro W hW
  have kz : Var W (w.heap.size + 1 + 1) 0 := by rw [hW]; exact Blk.new2 _ _ _ _ _
  have hb0 : Below w.heap.size w W := by rw [hW]; exact below_a3 _ _ _ _
  clear hW
  refine (Add_is x y o ho p hp _ ix iy).mono ?_
  rintro e u1 ⟨rfl, hn⟩
  replace kz : Var u1 _ _ := kz.of hn
  replace hb0 := hb0.trans (hn.mono hb0.size)
  clear hn
  have cz := Var.c kz
  have fz := Var.f kz
  have lz := kz.lt
  have KZ := Lib.hid kz
  clear kz
  go_wp2
  refine post_world ?_
  intro Wf hWf
  have kf : Var Wf (w.heap.size + 1 + 1) p := by rw [hWf]; exact (Var.put4 KZ.out p).alloc _
  have hbf : Below w.heap.size w Wf := by rw [hWf]; exact (below_set4 hb0 (by omega) (.int .u64 (wd0 p)) (.int .u64 (wd1 p)) (.int .u64 (wd2 p)) (.int .u64 (wd3 p))).alloc (by simp only [size_set]; exact hb0.size) _
  have c := Var.c kf
  clear hWf cz
  simp [bodyPost, results, Try.results25, go_sem, c]
  exact hbf

set_option maxRecDepth 100000 in
set_option maxHeartbeats 1000000 in
theorem PtRight_any (x y : Int) (w : World) : Calls Try.prog 31 #[pI x y] w fun e w' => e = .returned (.bool (inC x && inC y)) ∧ Below w.heap.size w w' := by
  obtain ⟨bx, hbx⟩ : ∃ b, inC x = b := ⟨_, rfl⟩
  obtain ⟨by', hby⟩ : ∃ b, inC y = b := ⟨_, rfl⟩
  rw [hbx, hby]
  have HX := Lib.hid hbx
  have HY := Lib.hid hby
  clear hbx hby
  go_enter Try.func31, Try.ntmps31
  go_wp2_with fail
  refine (within_any x _).mono ?_
  rintro e w2 ⟨rfl, hn⟩
  rw [HX.out]
  have kp : Blk w2 w.heap.size (pC x y) 25 := (Blk.new w _ _).of hn
  have hb0 := (below_a1 w _).trans (hn.mono (by simp))
  have c0 := kp.cell 0
  have c1 := kp.cell 1
  have l0 := kp.lt
  clear kp
  cases bx
  · go_wp2
    go_ret
    exact ⟨rfl, hb0⟩
  · go_wp2_with fail
    refine (within_any y _).mono ?_
    rintro e w3 ⟨rfl, hn3⟩
    rw [HY.out]
    go_wp2
    go_ret
    exact ⟨by simp, hb0.trans (hn3.mono hb0.size)⟩
end Go.Proofs.Ytdcihglpfchcmaa

namespace Go.Proofs.Ytdcihglpfchcmaa
open Go.RowKit

/-- a variable that holds a point -/
abbrev PVar (w : World) (b : Nat) (x y : Int) : Prop := Blk w b (pC x y) 25
theorem PVar.c {w : World} {b : Nat} {x y : Int} (h : PVar w b x y) : w.cell? ⟨b, 0, none⟩ = some (.int .i64 x) ∧ w.cell? ⟨b, 1, none⟩ = some (.int .i64 y) := ⟨h.cell 0, h.cell 1⟩

theorem OfD_any (a b d : Int) (h : a - b = d) (g : In64 d) (w : World) : Calls Try.prog 40 #[.int .i64 (wrap64 (a - b))] w fun e w' => e = .returned (wI d) ∧ Below w.heap.size w w' := by
  subst h
  rw [show wrap64 (a - b) = a - b by unfold wrap64; unfold In64 at g; omega]
  exact Of_any _ w g
theorem times_is (x y p : Int) (hp : x * y = p) (hi : InI p) (w : World) (ix : InI x) (iy : InI y) : Calls Try.prog 26 #[wI x, wI y] w fun e w' => e = .returned (wI p) ∧ Below w.heap.size w w' :=
  pttimes_any x y true (by rw [hp]; exact decide_eq_true hi) p (by simpa using hp) w ix iy
theorem less_is (x y p : Int) (hp : x - y = p) (hi : InI p) (w : World) (ix : InI x) (iy : InI y) : Calls Try.prog 39 #[wI x, wI y] w fun e w' => e = .returned (wI p) ∧ Below w.heap.size w w' :=
  ptless_any x y true (by rw [hp]; exact decide_eq_true hi) p (by simpa using hp) w ix iy
theorem plus_is (x y p : Int) (hp : x + y = p) (hi : InI p) (w : World) (ix : InI x) (iy : InI y) : Calls Try.prog 25 #[wI x, wI y] w fun e w' => e = .returned (wI p) ∧ Below w.heap.size w w' :=
  ptplus_any x y true (by rw [hp]; exact decide_eq_true hi) p (by simpa using hp) w ix iy
theorem in64_I {x : Int} (h : In64 x) : InI x := by unfold In64 at h; unfold InI b255; omega

set_option maxRecDepth 100000 in
set_option maxHeartbeats 1000000 in
theorem turn_go (ax ay bx b_y cx cy d1 d2 d3 d4 p q r : Int) (h1 : bx - ax = d1) (h2 : cy - ay = d2) (h3 : b_y - ay = d3) (h4 : cx - ax = d4) (g1 : In64 d1) (g2 : In64 d2) (g3 : In64 d3) (g4 : In64 d4) (hp : d1 * d2 = p) (hq : d3 * d4 = q) (hr : p - q = r) (ip : InI p) (iq : InI q) (ir : InI r) (w : World) :
    Calls Try.prog 23 #[pI ax ay, pI bx b_y, pI cx cy] w fun e w' => e = .returned (wI r) ∧ Below w.heap.size w w' := by
  have H1 := Lib.hid h1
  have H2 := Lib.hid h2
  have H3 := Lib.hid h3
  have H4 := Lib.hid h4
  have H5 := Lib.hid hp
  have H6 := Lib.hid hq
  have H7 := Lib.hid hr
  clear h1 h2 h3 h4 hp hq hr
  go_enter Try.func23, Try.ntmps23
  go_wp2_with fail
  refine name_world ?_
  intro W hW
  have ka : PVar W w.heap.size ax ay := by rw [hW]; exact (Blk.new w _ _).alloc _ |>.alloc _ |>.alloc _
  have kb : PVar W (w.heap.size + 1) bx b_y := by rw [hW]; exact (Blk.new1 w _ _ _).alloc _ |>.alloc _
  have kc : PVar W (w.heap.size + 1 + 1) cx cy := by rw [hW]; exact (Blk.new2 w _ _ _ _).alloc _
  have kz : Var W (w.heap.size + 1 + 1 + 1) 0 := by rw [hW]; exact Blk.new3 w _ _ _ _ _
  have hb0 : Below w.heap.size w W := by rw [hW]; exact (below_a3 _ _ _ _).alloc (by simp; omega) _
  clear hW
  have ca := PVar.c ka
  have cb := PVar.c kb
  have cc := PVar.c kc
  have la := ka.lt
  have lb := kb.lt
  have lc := kc.lt
  have lz := kz.lt
  have KZ := Lib.hid kz
  clear ka kb kc kz
  refine wp_region_up W.heap.size 24 [(true, 0), (true, 1), (true, 2), (true, 3), (true, 4), (true, 6), (true, 7), (true, 8), (true, 9), (true, 10), (true, 13), (true, 14), (true, 15), (true, 16), (true, 17), (true, 19), (true, 20), (true, 21), (true, 22), (true, 23), (false, 5), (false, 11), (false, 12), (false, 18)] (by kernel_rfl) (by kernel_rfl) (fun _ _ d _ _ h => by cases d <;> exact h) ?_
  have hb : Below W.heap.size W W.drew := (Below.refl _ _).drew
  iterate 20
    refine wpS_takeL rfl rfl ?_
    go_big_quiet_step (rfl)
    refine wpQuiet_nil ?_
  refine wpS_doL rfl ?_
  intro K hK
  go_wp2_with ((first | (go_at_call 40; (with_reducible refine (OfD_any bx ax d1 H1.out g1 _).mono ?_); rintro e w2 ⟨rfl, hn⟩) | (go_at_call 40; (with_reducible refine (OfD_any cy ay d2 H2.out g2 _).mono ?_); rintro e w2 ⟨rfl, hn⟩) | (go_at_call 40; (with_reducible refine (OfD_any b_y ay d3 H3.out g3 _).mono ?_); rintro e w2 ⟨rfl, hn⟩) | (go_at_call 40; (with_reducible refine (OfD_any cx ax d4 H4.out g4 _).mono ?_); rintro e w2 ⟨rfl, hn⟩) | (go_at_call 26; (with_reducible refine (times_is d1 d2 p H5.out ip _ (in64_I g1) (in64_I g2)).mono ?_); rintro e w2 ⟨rfl, hn⟩) | (go_at_call 26; (with_reducible refine (times_is d3 d4 q H6.out iq _ (in64_I g3) (in64_I g4)).mono ?_); rintro e w2 ⟨rfl, hn⟩) | (go_at_call 39; (with_reducible refine (less_is p q r H7.out ir _ ip iq).mono ?_); rintro e w2 ⟨rfl, hn⟩)))
  replace hb := hb.trans (hn.mono hb.size)
  refine hK.out _ _ (up_iff.2 hb) ?_
  clear hK K
  clear hn
  refine wpS_doL rfl ?_
  intro K hK
  go_wp2_with ((first | (go_at_call 40; (with_reducible refine (OfD_any bx ax d1 H1.out g1 _).mono ?_); rintro e w2 ⟨rfl, hn⟩) | (go_at_call 40; (with_reducible refine (OfD_any cy ay d2 H2.out g2 _).mono ?_); rintro e w2 ⟨rfl, hn⟩) | (go_at_call 40; (with_reducible refine (OfD_any b_y ay d3 H3.out g3 _).mono ?_); rintro e w2 ⟨rfl, hn⟩) | (go_at_call 40; (with_reducible refine (OfD_any cx ax d4 H4.out g4 _).mono ?_); rintro e w2 ⟨rfl, hn⟩) | (go_at_call 26; (with_reducible refine (times_is d1 d2 p H5.out ip _ (in64_I g1) (in64_I g2)).mono ?_); rintro e w2 ⟨rfl, hn⟩) | (go_at_call 26; (with_reducible refine (times_is d3 d4 q H6.out iq _ (in64_I g3) (in64_I g4)).mono ?_); rintro e w2 ⟨rfl, hn⟩) | (go_at_call 39; (with_reducible refine (less_is p q r H7.out ir _ ip iq).mono ?_); rintro e w2 ⟨rfl, hn⟩)))
  replace hb := hb.trans (hn.mono hb.size)
  refine hK.out _ _ (up_iff.2 hb) ?_
  clear hK K
  clear hn
  refine wpS_doL rfl ?_
  intro K hK
  go_wp2_with ((first | (go_at_call 40; (with_reducible refine (OfD_any bx ax d1 H1.out g1 _).mono ?_); rintro e w2 ⟨rfl, hn⟩) | (go_at_call 40; (with_reducible refine (OfD_any cy ay d2 H2.out g2 _).mono ?_); rintro e w2 ⟨rfl, hn⟩) | (go_at_call 40; (with_reducible refine (OfD_any b_y ay d3 H3.out g3 _).mono ?_); rintro e w2 ⟨rfl, hn⟩) | (go_at_call 40; (with_reducible refine (OfD_any cx ax d4 H4.out g4 _).mono ?_); rintro e w2 ⟨rfl, hn⟩) | (go_at_call 26; (with_reducible refine (times_is d1 d2 p H5.out ip _ (in64_I g1) (in64_I g2)).mono ?_); rintro e w2 ⟨rfl, hn⟩) | (go_at_call 26; (with_reducible refine (times_is d3 d4 q H6.out iq _ (in64_I g3) (in64_I g4)).mono ?_); rintro e w2 ⟨rfl, hn⟩) | (go_at_call 39; (with_reducible refine (less_is p q r H7.out ir _ ip iq).mono ?_); rintro e w2 ⟨rfl, hn⟩)))
  replace hb := hb.trans (hn.mono hb.size)
  refine hK.out _ _ (up_iff.2 hb) ?_
  clear hK K
  clear hn
  refine wpS_doL rfl ?_
  intro K hK
  go_wp2_with ((first | (go_at_call 40; (with_reducible refine (OfD_any bx ax d1 H1.out g1 _).mono ?_); rintro e w2 ⟨rfl, hn⟩) | (go_at_call 40; (with_reducible refine (OfD_any cy ay d2 H2.out g2 _).mono ?_); rintro e w2 ⟨rfl, hn⟩) | (go_at_call 40; (with_reducible refine (OfD_any b_y ay d3 H3.out g3 _).mono ?_); rintro e w2 ⟨rfl, hn⟩) | (go_at_call 40; (with_reducible refine (OfD_any cx ax d4 H4.out g4 _).mono ?_); rintro e w2 ⟨rfl, hn⟩) | (go_at_call 26; (with_reducible refine (times_is d1 d2 p H5.out ip _ (in64_I g1) (in64_I g2)).mono ?_); rintro e w2 ⟨rfl, hn⟩) | (go_at_call 26; (with_reducible refine (times_is d3 d4 q H6.out iq _ (in64_I g3) (in64_I g4)).mono ?_); rintro e w2 ⟨rfl, hn⟩) | (go_at_call 39; (with_reducible refine (less_is p q r H7.out ir _ ip iq).mono ?_); rintro e w2 ⟨rfl, hn⟩)))
  replace hb := hb.trans (hn.mono hb.size)
  refine hK.out _ _ (up_iff.2 hb) ?_
  clear hK K
  clear hn
  refine wpS_nil ?_
  simp only [List.drop_succ_cons, List.drop_zero]
  clear ca cb cc la lb lc
  replace hb0 := hb0.trans (hb.mono hb0.size)
  replace KZ := Lib.hid (KZ.out.of hb)
  clear hb
  go_wp2_with fail
  refine (OfD_any cx ax d4 H4.out g4 _).mono ?_
  rintro e u1 ⟨rfl, hn⟩
  replace hb0 := hb0.trans (hn.mono hb0.size)
  replace KZ := Lib.hid (KZ.out.of hn)
  clear hn
  go_wp2_with fail
  refine (times_is d3 d4 q H6.out iq _ (in64_I g3) (in64_I g4)).mono ?_
  rintro e u2 ⟨rfl, hn⟩
  replace hb0 := hb0.trans (hn.mono hb0.size)
  replace KZ := Lib.hid (KZ.out.of hn)
  clear hn
  go_wp2_with fail
  refine (less_is p q r H7.out ir _ ip iq).mono ?_
  rintro e u3 ⟨rfl, hn⟩
  replace hb0 := hb0.trans (hn.mono hb0.size)
  replace KZ := Lib.hid (KZ.out.of hn)
  clear hn
  have cz := Var.c KZ.out
  have fz := Var.f KZ.out
  have lz := KZ.out.lt
  go_wp2
  refine post_world ?_
  intro Wf hWf
  have kf : Var Wf (w.heap.size + 1 + 1 + 1) r := by rw [hWf]; exact Var.put4 KZ.out r
  have hbf : Below w.heap.size w Wf := by rw [hWf]; exact below_set4 hb0 (by omega) (.int .u64 (wd0 r)) (.int .u64 (wd1 r)) (.int .u64 (wd2 r)) (.int .u64 (wd3 r))
  have c := Var.c kf
  clear hWf cz
  simp [bodyPost, results, Try.results23, go_sem, c]
  exact hbf

/-- is a number a coordinate? -/
def Co (x : Int) : Prop := -2199023255552 ≤ x ∧ x ≤ 2199023255552
/-- the turn of three -/
def trn (ax ay bx b_y cx cy : Int) : Int := (bx - ax) * (cy - ay) - (b_y - ay) * (cx - ax)
theorem co_sub {x y : Int} (hx : Co x) (hy : Co y) : -4398046511104 ≤ x - y ∧ x - y ≤ 4398046511104 := by unfold Co at *; omega
theorem mul_bd {x y a b : Int} (ha : 0 ≤ a) (hx : -a ≤ x ∧ x ≤ a) (hy : -b ≤ y ∧ y ≤ b) : -(a * b) ≤ x * y ∧ x * y ≤ a * b := by
  have h1 : x.natAbs ≤ a.natAbs := by omega
  have h2 : y.natAbs ≤ b.natAbs := by omega
  have h3 := Nat.mul_le_mul h1 h2
  rw [← Int.natAbs_mul, ← Int.natAbs_mul] at h3
  have hb : 0 ≤ b := by omega
  have h4 : 0 ≤ a * b := Int.mul_nonneg ha hb
  generalize a * b = p at *
  generalize x * y = q at *
  omega
theorem trn_bd {ax ay bx b_y cx cy : Int} (h1 : Co ax) (h2 : Co ay) (h3 : Co bx) (h4 : Co b_y) (h5 : Co cx) (h6 : Co cy) :
    -38685626227668133590597632 ≤ trn ax ay bx b_y cx cy ∧ trn ax ay bx b_y cx cy ≤ 38685626227668133590597632 := by
  have a1 := mul_bd (by decide) (co_sub h3 h1) (co_sub h6 h2)
  have a2 := mul_bd (by decide) (co_sub h4 h2) (co_sub h5 h1)
  unfold trn
  generalize (bx - ax) * (cy - ay) = p at *
  generalize (b_y - ay) * (cx - ax) = q at *
  omega
theorem turn_any (ax ay bx b_y cx cy : Int) (h1 : Co ax) (h2 : Co ay) (h3 : Co bx) (h4 : Co b_y) (h5 : Co cx) (h6 : Co cy) (w : World) :
    Calls Try.prog 23 #[pI ax ay, pI bx b_y, pI cx cy] w fun e w' => e = .returned (wI (trn ax ay bx b_y cx cy)) ∧ Below w.heap.size w w' := by
  have a1 := mul_bd (by decide) (co_sub h3 h1) (co_sub h6 h2)
  have a2 := mul_bd (by decide) (co_sub h4 h2) (co_sub h5 h1)
  have a3 := trn_bd h1 h2 h3 h4 h5 h6
  refine turn_go ax ay bx b_y cx cy _ _ _ _ _ _ _ rfl rfl rfl rfl ?_ ?_ ?_ ?_ rfl rfl rfl ?_ ?_ ?_ w
  · have := co_sub h3 h1; unfold In64; omega
  · have := co_sub h6 h2; unfold In64; omega
  · have := co_sub h4 h2; unfold In64; omega
  · have := co_sub h5 h1; unfold In64; omega
  · unfold InI b255; omega
  · unfold InI b255; omega
  · unfold trn at a3; unfold InI b255; omega
end Go.Proofs.Ytdcihglpfchcmaa
namespace Go.Proofs.Ytdcihglpfchcmaa
open Go.RowKit

/-- a slice of points -/
structure Pts (w : World) (ao : Option Addr) (n cap : Nat) (X Y : Nat → Int) : Prop where
  ptr : 0 < n → ∃ a, ao = some a ∧ a.block < w.heap.size ∧ ∀ i, i < n → w.cell? (a.add (i * 2)) = some (.int .i64 (X i)) ∧ w.cell? ((a.add (i * 2)).add 1) = some (.int .i64 (Y i))
  capl : n ≤ cap
  capb : cap ≤ 9223372036854775807
theorem Pts.of {w w' : World} {ao : Option Addr} {n cap : Nat} {X Y : Nat → Int} (h : Pts w ao n cap X Y) (hb : Below w.heap.size w w') : Pts w' ao n cap X Y := by
  refine ⟨fun h0 => ?_, h.capl, h.capb⟩
  obtain ⟨a, h1, h2, h3⟩ := h.ptr h0
  refine ⟨a, h1, Nat.lt_of_lt_of_le h2 hb.size, fun i hi => ?_⟩
  have e1 : ∀ k, (a.add k).block = a.block := fun k => by unfold Addr.add; split <;> rfl
  have e2 : ∀ k l, ((a.add k).add l).block = a.block := fun k l => by unfold Addr.add; split <;> split <;> rfl
  rw [hb.cell (by rw [e1]; exact h2), hb.cell (by rw [e2]; exact h2)]
  exact h3 i hi
/-- are all points of a row right? -/
def allC (n : Nat) (X Y : Nat → Int) : Bool := (List.range n).all fun i => inC (X i) && inC (Y i)

set_option maxRecDepth 100000 in
set_option maxHeartbeats 1000000 in
theorem ptright_any (ao : Option Addr) (n cap : Nat) (X Y : Nat → Int) (w : World) (h : Pts w ao n cap X Y) :
    Calls Try.prog 15 #[.slice ao n cap] w fun e w' => e = .returned (.bool (allC n X Y)) ∧ Below w.heap.size w w' := by
  have hcl := h.capl
  have hcb := h.capb
  have HW := Lib.hid h
  clear h
  obtain ⟨A, hA⟩ : ∃ A, allC n X Y = A := ⟨_, rfl⟩
  rw [hA]
  replace hA := Lib.hid hA
  go_enter Try.func15, Try.ntmps15
  go_wp2_with fail
  go_loopw [7] (fun i wr => ∃ k : Nat, k ≤ n ∧ i = .int .i64 k ∧ Hid (∀ j, j < k → (inC (X j) && inC (Y j)) = true) ∧ Below w.heap.size w wr) (fun i _ => n - (intOf i).toNat)
  case atStart => exact ⟨0, Nat.zero_le _, rfl, fun j hj => absurd hj (by omega), Below.refl _ _⟩
  case round =>
    rename_i wr
    obtain ⟨k, hk, rfl, hall, hbl⟩ := hrel
    by_cases h1 : k < n
    · obtain ⟨a, rfl, hbk, hc⟩ := HW.out.ptr (by omega)
      have ebl : ∀ k, (a.add k).block = a.block := fun k => by unfold Addr.add; split <;> rfl
      have ebl2 : ∀ k l, ((a.add k).add l).block = a.block := fun k l => by unfold Addr.add; split <;> split <;> rfl
      have e0 : wr.cell? (a.add (k * 2)) = some (.int .i64 (X k)) := by rw [hbl.cell (by rw [ebl]; exact hbk)]; exact (hc k h1).1
      have e1 : wr.cell? ((a.add (k * 2)).add 1) = some (.int .i64 (Y k)) := by rw [hbl.cell (by rw [ebl2]; exact hbk)]; exact (hc k h1).2
      clear hc ebl ebl2
      obtain ⟨x, hx⟩ : ∃ x, X k = x := ⟨_, rfl⟩
      obtain ⟨y, hy⟩ : ∃ y, Y k = y := ⟨_, rfl⟩
      obtain ⟨g, hg⟩ : ∃ g, (inC x && inC y) = g := ⟨_, rfl⟩
      rw [hx] at e0
      rw [hy] at e1
      replace e1 : wr.cell? { block := (a.add (k * 2)).block, off := (a.add (k * 2)).off + 1 } = some (.int .i64 y) := e1
      have HX := Lib.hid hx
      have HY := Lib.hid hy
      have HG := Lib.hid hg
      clear hx hy hg
      go_wp2_with fail
      refine (PtRight_any x y _).mono ?_
      rintro e w2 ⟨rfl, hn⟩
      rw [HG.out]
      have hb2 : Below w.heap.size w w2 := (hbl.alloc hbl.size _).trans (hn.mono (by have := hbl.size; simp; omega))
      clear hn e0 e1
      cases g
      · have HA : A = false := by
          rw [← hA.out]; unfold allC; rw [List.all_eq_false]
          refine ⟨k, List.mem_range.2 h1, ?_⟩
          rw [HX.out, HY.out, HG.out]; exact Bool.false_ne_true
        subst HA
        clear hA hall
        go_wp2
        go_ret
        exact ⟨rfl, hb2⟩
      · go_wp2
        refine ⟨⟨k + 1, by omega, by norm_cast, fun j hj => ?_, hb2⟩, ?_⟩
        · by_cases hjk : j = k
          · subst hjk; rw [HX.out, HY.out, HG.out]
          · exact hall.out j (by omega)
        · simp only [intOf]; omega
    · have hkn : k = n := by omega
      have HA : A = true := by
        rw [← hA.out]; unfold allC; rw [List.all_eq_true]
        intro j hj; exact hall.out j (by rw [hkn]; exact List.mem_range.1 hj)
      subst HA
      clear hA hall
      go_wp2
      go_ret
      exact ⟨rfl, hbl⟩

/-- three, four values by their number -/
def f3 (a b c : Int) : Nat → Int | 0 => a | 1 => b | _ => c
def f4 (a b c d : Int) : Nat → Int | 0 => a | 1 => b | 2 => c | _ => d
theorem Pts.three {W : World} {b : Nat} {t : TypeId} {ax ay bx b_y cx cy : Int} (h : Blk W b #[.int .i64 ax, .int .i64 ay, .int .i64 bx, .int .i64 b_y, .int .i64 cx, .int .i64 cy] t) :
    Pts W (some ⟨b, 0, none⟩) 3 3 (f3 ax bx cx) (f3 ay b_y cy) := by
  refine ⟨fun _ => ⟨_, rfl, h.lt, fun i hi => ?_⟩, by decide, by decide⟩
  match i, hi with
  | 0, _ => exact ⟨h.cell 0, h.cell 1⟩
  | 1, _ => exact ⟨h.cell 2, h.cell 3⟩
  | 2, _ => exact ⟨h.cell 4, h.cell 5⟩
theorem Pts.four {W : World} {b : Nat} {t : TypeId} {ax ay bx b_y cx cy dx dy : Int} (h : Blk W b #[.int .i64 ax, .int .i64 ay, .int .i64 bx, .int .i64 b_y, .int .i64 cx, .int .i64 cy, .int .i64 dx, .int .i64 dy] t) :
    Pts W (some ⟨b, 0, none⟩) 4 4 (f4 ax bx cx dx) (f4 ay b_y cy dy) := by
  refine ⟨fun _ => ⟨_, rfl, h.lt, fun i hi => ?_⟩, by decide, by decide⟩
  match i, hi with
  | 0, _ => exact ⟨h.cell 0, h.cell 1⟩
  | 1, _ => exact ⟨h.cell 2, h.cell 3⟩
  | 2, _ => exact ⟨h.cell 4, h.cell 5⟩
  | 3, _ => exact ⟨h.cell 6, h.cell 7⟩
/-- may it be a point? -/
def rp (x y : Int) : Bool := inC x && inC y
def rp3 (ax ay bx b_y cx cy : Int) : Bool := rp ax ay && rp bx b_y && rp cx cy
def rp4 (ax ay bx b_y cx cy dx dy : Int) : Bool := rp ax ay && rp bx b_y && rp cx cy && rp dx dy
theorem allC_3 (ax ay bx b_y cx cy : Int) : allC 3 (f3 ax bx cx) (f3 ay b_y cy) = rp3 ax ay bx b_y cx cy := by
  simp [allC, List.range_succ, f3, rp3, rp, Bool.and_assoc]
theorem allC_4 (ax ay bx b_y cx cy dx dy : Int) : allC 4 (f4 ax bx cx dx) (f4 ay b_y cy dy) = rp4 ax ay bx b_y cx cy dx dy := by
  simp [allC, List.range_succ, f4, rp4, rp, Bool.and_assoc]
theorem inC_co {x : Int} (h : inC x = true) : Co x := by
  unfold inC at h; unfold Co; simpa using h
theorem rp_co {x y : Int} (h : rp x y = true) : Co x ∧ Co y := by
  unfold rp at h; rw [Bool.and_eq_true] at h; exact ⟨inC_co h.1, inC_co h.2⟩
theorem rp3_co {ax ay bx b_y cx cy : Int} (h : rp3 ax ay bx b_y cx cy = true) : Co ax ∧ Co ay ∧ Co bx ∧ Co b_y ∧ Co cx ∧ Co cy := by
  unfold rp3 at h; rw [Bool.and_eq_true, Bool.and_eq_true] at h
  obtain ⟨⟨h1, h2⟩, h3⟩ := h
  exact ⟨(rp_co h1).1, (rp_co h1).2, (rp_co h2).1, (rp_co h2).2, (rp_co h3).1, (rp_co h3).2⟩
/-- the way of the turn of any three -/
def way (ax ay bx b_y cx cy : Int) : Int := bif rp3 ax ay bx b_y cx cy then (trn ax ay bx b_y cx cy).sign else 0

theorem right3_is (ax ay bx b_y cx cy : Int) (g : Bool) (hg : rp3 ax ay bx b_y cx cy = g) (W : World) (b : Nat) (t : TypeId) (h : Blk W b #[.int .i64 ax, .int .i64 ay, .int .i64 bx, .int .i64 b_y, .int .i64 cx, .int .i64 cy] t) :
    Calls Try.prog 15 #[.slice (some ⟨b, 0, none⟩) 3 3] W fun e w' => e = .returned (.bool g) ∧ Below W.heap.size W w' := by
  have := ptright_any _ _ _ _ _ W (Pts.three h)
  rw [allC_3, hg] at this
  exact this
theorem right4_is (ax ay bx b_y cx cy dx dy : Int) (g : Bool) (hg : rp4 ax ay bx b_y cx cy dx dy = g) (W : World) (b : Nat) (t : TypeId) (h : Blk W b #[.int .i64 ax, .int .i64 ay, .int .i64 bx, .int .i64 b_y, .int .i64 cx, .int .i64 cy, .int .i64 dx, .int .i64 dy] t) :
    Calls Try.prog 15 #[.slice (some ⟨b, 0, none⟩) 4 4] W fun e w' => e = .returned (.bool g) ∧ Below W.heap.size W w' := by
  have := ptright_any _ _ _ _ _ W (Pts.four h)
  rw [allC_4, hg] at this
  exact this

set_option maxRecDepth 100000 in
set_option maxHeartbeats 1000000 in
theorem Turn_any (ax ay bx b_y cx cy : Int) (w : World) :
    Calls Try.prog 11 #[pI ax ay, pI bx b_y, pI cx cy] w fun e w' => e = .returned (.int .i64 (way ax ay bx b_y cx cy)) ∧ Below w.heap.size w w' := by
  unfold way
  obtain ⟨g, hg⟩ : ∃ g, rp3 ax ay bx b_y cx cy = g := ⟨_, rfl⟩
  rw [hg]
  obtain ⟨s, hs⟩ : ∃ s : Int, (bif g then (trn ax ay bx b_y cx cy).sign else 0) = s := ⟨_, rfl⟩
  rw [hs]
  have HG := Lib.hid hg
  have HS := Lib.hid hs
  clear hg hs
  go_enter Try.func11, Try.ntmps11
  go_wp2_with fail
  refine calls_w ?_
  intro W hW
  have ka : PVar W w.heap.size ax ay := by rw [hW]; exact (Blk.new w _ _).alloc _ |>.alloc _ |>.alloc _
  have kb : PVar W (w.heap.size + 1) bx b_y := by rw [hW]; exact (Blk.new1 w _ _ _).alloc _ |>.alloc _
  have kc : PVar W (w.heap.size + 1 + 1) cx cy := by rw [hW]; exact (Blk.new2 w _ _ _ _).alloc _
  have kl : Blk W (w.heap.size + 1 + 1 + 1) #[.int .i64 ax, .int .i64 ay, .int .i64 bx, .int .i64 b_y, .int .i64 cx, .int .i64 cy] 25 := by rw [hW]; exact Blk.new3 w _ _ _ _ _
  have hb0 : Below w.heap.size w W := by rw [hW]; exact (below_a3 _ _ _ _).alloc (by simp; omega) _
  clear hW
  refine (right3_is ax ay bx b_y cx cy g HG.out _ _ _ kl).mono ?_
  rintro e u1 ⟨rfl, hn⟩
  replace ka : PVar u1 _ _ _ := ka.of hn
  replace kb : PVar u1 _ _ _ := kb.of hn
  replace kc : PVar u1 _ _ _ := kc.of hn
  replace hb0 := hb0.trans (hn.mono hb0.size)
  clear hn kl
  have ca := PVar.c ka
  have cb := PVar.c kb
  have cc := PVar.c kc
  clear ka kb kc
  cases g
  · have h0 : s = 0 := HS.out.symm
    subst h0
    go_wp2
    go_ret
    exact ⟨rfl, hb0⟩
  · obtain ⟨h1, h2, h3, h4, h5, h6⟩ := rp3_co HG.out
    have HT := trn_bd h1 h2 h3 h4 h5 h6
    go_wp2_with fail
    refine (turn_any ax ay bx b_y cx cy h1 h2 h3 h4 h5 h6 _).mono ?_
    rintro e u2 ⟨rfl, hn⟩
    replace hb0 := hb0.trans (hn.mono hb0.size)
    clear hn ca cb cc
    go_wp2_with fail
    refine (Sign_is _ s HS.out _ (by unfold InI b255; omega)).mono ?_
    rintro e u3 ⟨rfl, hn⟩
    replace hb0 := hb0.trans (hn.mono hb0.size)
    clear hn
    go_wp2
    go_ret
    exact ⟨rfl, hb0⟩
end Go.Proofs.Ytdcihglpfchcmaa
namespace Go.Proofs.Ytdcihglpfchcmaa
open Go.RowKit

set_option maxRecDepth 100000 in
set_option maxHeartbeats 2000000 in
theorem far_go (ax ay bx b_y d1 d2 p q r : Int) (h1 : ax - bx = d1) (h2 : ay - b_y = d2) (g1 : In64 d1) (g2 : In64 d2) (hp : d1 * d1 = p) (hq : d2 * d2 = q) (hr : p + q = r) (ip : InI p) (iq : InI q) (ir : InI r) (w : World) :
    Calls Try.prog 27 #[pI ax ay, pI bx b_y] w fun e w' => e = .returned (wI r) ∧ Below w.heap.size w w' := by
  have H1 := Lib.hid h1
  have H2 := Lib.hid h2
  have H5 := Lib.hid hp
  have H6 := Lib.hid hq
  have H7 := Lib.hid hr
  clear h1 h2 hp hq hr
  go_enter Try.func27, Try.ntmps27
  go_wp2_with fail
  refine name_world ?_
  intro W hW
  have ka : PVar W w.heap.size ax ay := by rw [hW]; exact (Blk.new w _ _).alloc _ |>.alloc _
  have kb : PVar W (w.heap.size + 1) bx b_y := by rw [hW]; exact (Blk.new1 w _ _ _).alloc _
  have kz : Var W (w.heap.size + 1 + 1) 0 := by rw [hW]; exact Blk.new2 w _ _ _ _
  have hb0 : Below w.heap.size w W := by rw [hW]; exact below_a3 _ _ _ _
  clear hW
  have ca := PVar.c ka
  have cb := PVar.c kb
  have la := ka.lt
  have lb := kb.lt
  have KZ := Lib.hid kz
  clear ka kb kz
  refine wp_region_FG2 14 12 13 [(0, 0), (0, 1), (0, 2), (0, 3), (0, 4), (2, 6), (0, 7), (2, 8), (0, 9), (0, 10), (1, 5), (1, 11)] [(3, 14), (3, 15)] (by kernel_rfl) (by kernel_rfl) (fun _ _ d _ _ => by cases d <;> exact Iff.rfl) rfl rfl rfl allocI rfl rfl rfl allocI rfl ?_
  have hb : Below W.heap.size W W.drew := (Below.refl _ _).drew
  iterate 5
    refine wpFG_take0 rfl rfl ?_
    go_big_quiet_step (rfl)
    refine wpQuiet_nil ?_
  refine wpFG_take2 rfl rfl ?_
  go_big_quiet_step (rfl)
  refine wpQuiet_nil ?_
  refine wpFG_take0 rfl rfl ?_
  go_big_quiet_step (rfl)
  refine wpQuiet_nil ?_
  refine wpFG_take2 rfl rfl ?_
  go_big_quiet_step (rfl)
  refine wpQuiet_nil ?_
  iterate 2
    refine wpFG_take0 rfl rfl ?_
    go_big_quiet_step (rfl)
    refine wpQuiet_nil ?_
  refine wpFG_do rfl ?_
  intro w1 hg K hK
  replace hb := hb.trans (hg.mono hb.size)
  clear hg
  go_wp2_with ((first | (go_at_call 40; (with_reducible refine (OfD_any ax bx d1 H1.out g1 _).mono ?_); rintro e w2 ⟨rfl, hn⟩) | (go_at_call 40; (with_reducible refine (OfD_any ay b_y d2 H2.out g2 _).mono ?_); rintro e w2 ⟨rfl, hn⟩)))
  refine hK.out _ _ hn ?_
  replace hb := hb.trans (hn.mono hb.size)
  clear hK K
  clear hn
  refine wpFG_do rfl ?_
  intro w1 hg K hK
  replace hb := hb.trans (hg.mono hb.size)
  clear hg
  go_wp2_with ((first | (go_at_call 40; (with_reducible refine (OfD_any ax bx d1 H1.out g1 _).mono ?_); rintro e w2 ⟨rfl, hn⟩) | (go_at_call 40; (with_reducible refine (OfD_any ay b_y d2 H2.out g2 _).mono ?_); rintro e w2 ⟨rfl, hn⟩)))
  refine hK.out _ _ hn ?_
  replace hb := hb.trans (hn.mono hb.size)
  clear hK K
  clear hn
  refine wpFG_nil ?_
  clear hb
  intro w1 hg hb b1 b2 hne lb1 nb1 lb2 nb2
  clear hg
  simp only [Act.put, ptrTo, List.setIfInBounds_toArray, List.set_cons_succ, List.set_cons_zero]
  have c1 := Var.c (show Var w1 b1 0 from nb1)
  have f1 := Var.f (show Var w1 b1 0 from nb1)
  have c2 := Var.c (show Var w1 b2 0 from nb2)
  have f2 := Var.f (show Var w1 b2 0 from nb2)
  clear ca cb la lb
  refine wpG_do3 rfl ?_
  intro K hK
  go_wp2_with (fail)
  refine hK.out _ _ ?_
  clear hK K
  refine wpG_do3 rfl ?_
  intro K hK
  go_wp2_with (fail)
  refine hK.out _ _ ?_
  clear hK K
  refine wpG_nil ?_
  refine list_world ?_
  intro V hV
  have g1' : Var w1 b1 0 := nb1
  have g2' : Var w1 b2 0 := nb2
  have hne' : b1 ≠ b2 := hne
  have hz1 : w.heap.size + 1 + 1 ≠ b1 := by have := KZ.out.lt; omega
  have hz2 : w.heap.size + 1 + 1 ≠ b2 := by have := KZ.out.lt; omega
  have k1 : Var V b1 d1 := by rw [hV]; exact (Var.put4 g1' d1).set4 hne' _ _ _ _
  have k2 : Var V b2 d2 := by rw [hV]; exact Var.put4 (g2'.set4 hne'.symm (.int .u64 (wd0 d1)) (.int .u64 (wd1 d1)) (.int .u64 (wd2 d1)) (.int .u64 (wd3 d1))) d2
  have kz : Var V (w.heap.size + 1 + 1) 0 := by rw [hV]; exact ((KZ.out.of hb).set4 hz1 _ _ _ _).set4 hz2 _ _ _ _
  have hge1 : w.heap.size ≤ b1 := Nat.le_trans hb0.size lb1
  have hge2 : w.heap.size ≤ b2 := Nat.le_trans hb0.size lb2
  have hbV : Below w.heap.size w V := by
    rw [hV]
    exact below_set4 (below_set4 (hb0.trans (hb.mono hb0.size)) hge1 (.int .u64 (wd0 d1)) (.int .u64 (wd1 d1)) (.int .u64 (wd2 d1)) (.int .u64 (wd3 d1))) hge2 (.int .u64 (wd0 d2)) (.int .u64 (wd1 d2)) (.int .u64 (wd2 d2)) (.int .u64 (wd3 d2))
  replace KZ := Lib.hid kz
  clear hV g1' g2' c1 c2 f1 f2 nb1 nb2 kz hb hb0
  have l1 := k1.lt
  have l2 := k2.lt
  have c1 := Var.c k1
  have c2 := Var.c k2
  clear k1 k2
  go_wp2_with fail
  refine wp_region_up V.heap.size 5 [(true, 0), (true, 1), (true, 3), (true, 4), (false, 2)] (by kernel_rfl) (by kernel_rfl) (fun _ _ d _ _ h => by cases d <;> exact h) ?_
  have hb : Below V.heap.size V V.drew := (Below.refl _ _).drew
  iterate 4
    refine wpS_takeL rfl rfl ?_
    go_big_quiet_step (rfl)
    refine wpQuiet_nil ?_
  refine wpS_doL rfl ?_
  intro K hK
  go_wp2_with ((first | (go_at_call 26; (with_reducible refine (times_is d1 d1 p H5.out ip _ (in64_I g1) (in64_I g1)).mono ?_); rintro e w2 ⟨rfl, hn⟩) | (go_at_call 26; (with_reducible refine (times_is d2 d2 q H6.out iq _ (in64_I g2) (in64_I g2)).mono ?_); rintro e w2 ⟨rfl, hn⟩) | (go_at_call 25; (with_reducible refine (plus_is p q r H7.out ir _ ip iq).mono ?_); rintro e w2 ⟨rfl, hn⟩)))
  replace hb := hb.trans (hn.mono hb.size)
  refine hK.out _ _ (up_iff.2 hb) ?_
  clear hK K
  clear hn
  refine wpS_nil ?_
  simp only [List.drop_succ_cons, List.drop_zero]
  replace hb0 := hbV.trans (hb.mono hbV.size)
  replace KZ := Lib.hid (KZ.out.of hb)
  clear hb c1 c2 l1 l2 hbV
  go_wp2_with fail
  refine (times_is d2 d2 q H6.out iq _ (in64_I g2) (in64_I g2)).mono ?_
  rintro e u2 ⟨rfl, hn⟩
  replace hb0 := hb0.trans (hn.mono hb0.size)
  replace KZ := Lib.hid (KZ.out.of hn)
  clear hn
  go_wp2_with fail
  refine (plus_is p q r H7.out ir _ ip iq).mono ?_
  rintro e u3 ⟨rfl, hn⟩
  replace hb0 := hb0.trans (hn.mono hb0.size)
  replace KZ := Lib.hid (KZ.out.of hn)
  clear hn
  have cz := Var.c KZ.out
  have fz := Var.f KZ.out
  have lz := KZ.out.lt
  go_wp2
  refine post_world ?_
  intro Wf hWf
  have kf : Var Wf (w.heap.size + 1 + 1) r := by rw [hWf]; exact Var.put4 KZ.out r
  have hbf : Below w.heap.size w Wf := by rw [hWf]; exact below_set4 hb0 (by omega) (.int .u64 (wd0 r)) (.int .u64 (wd1 r)) (.int .u64 (wd2 r)) (.int .u64 (wd3 r))
  have c := Var.c kf
  clear hWf cz
  simp [bodyPost, results, Try.results27, go_sem, c]
  exact hbf

/-- the square of how far one lies from another one -/
def frr (ax ay bx b_y : Int) : Int := (ax - bx) * (ax - bx) + (ay - b_y) * (ay - b_y)
theorem frr_bd {ax ay bx b_y : Int} (h1 : Co ax) (h2 : Co ay) (h3 : Co bx) (h4 : Co b_y) : -38685626227668133590597632 ≤ frr ax ay bx b_y ∧ frr ax ay bx b_y ≤ 38685626227668133590597632 := by
  have a1 := mul_bd (by decide) (co_sub h1 h3) (co_sub h1 h3)
  have a2 := mul_bd (by decide) (co_sub h2 h4) (co_sub h2 h4)
  unfold frr
  generalize (ax - bx) * (ax - bx) = p at *
  generalize (ay - b_y) * (ay - b_y) = q at *
  omega
theorem far_any (ax ay bx b_y : Int) (h1 : Co ax) (h2 : Co ay) (h3 : Co bx) (h4 : Co b_y) (w : World) :
    Calls Try.prog 27 #[pI ax ay, pI bx b_y] w fun e w' => e = .returned (wI (frr ax ay bx b_y)) ∧ Below w.heap.size w w' := by
  have a1 := mul_bd (by decide) (co_sub h1 h3) (co_sub h1 h3)
  have a2 := mul_bd (by decide) (co_sub h2 h4) (co_sub h2 h4)
  have a3 := frr_bd h1 h2 h3 h4
  refine far_go ax ay bx b_y _ _ _ _ _ rfl rfl ?_ ?_ rfl rfl rfl ?_ ?_ ?_ w
  · have := co_sub h1 h3; unfold In64; omega
  · have := co_sub h2 h4; unfold In64; omega
  · unfold InI b255; omega
  · unfold InI b255; omega
  · unfold frr at a3; unfold InI b255; omega
end Go.Proofs.Ytdcihglpfchcmaa
namespace Go.Proofs.Ytdcihglpfchcmaa
open Go.RowKit

/-- does a number lie from one to another one? -/
def btw (a b n : Int) : Bool := decide (min a b ≤ n) && decide (n ≤ max a b)
set_option maxRecDepth 100000 in
set_option maxHeartbeats 1000000 in
theorem between_any (a b n : Int) (w : World) :
    Calls Try.prog 28 #[.int .i64 a, .int .i64 b, .int .i64 n] w fun e w' => e = .returned (.bool (btw a b n)) ∧ Below w.heap.size w w' := by
  obtain ⟨t, ht⟩ : ∃ t, btw a b n = t := ⟨_, rfl⟩
  rw [ht]
  have HT := Lib.hid ht
  clear ht
  by_cases h0 : a < b <;> by_cases h1 : a ≤ n <;> by_cases h2 : b ≤ n
  all_goals
    go_enter Try.func28, Try.ntmps28
    go_wp2
    all_goals
      go_ret
      refine ⟨congrArg (fun t => Ending.returned (.bool t)) ?_, Below.refl _ _⟩
      rw [← HT.out]; unfold btw; rw [Bool.eq_iff_iff]; simp; omega

/-- does one lie on a segment? -/
def onB (ax ay bx b_y px py : Int) : Bool := rp3 ax ay bx b_y px py && (trn ax ay bx b_y px py).sign == 0 && btw ax bx px && btw ay b_y py

set_option maxRecDepth 100000 in
set_option maxHeartbeats 1000000 in
theorem On_any (ax ay bx b_y cx cy : Int) (w : World) :
    Calls Try.prog 13 #[pI ax ay, pI bx b_y, pI cx cy] w fun e w' => e = .returned (.bool (onB ax ay bx b_y cx cy)) ∧ Below w.heap.size w w' := by
  unfold onB
  obtain ⟨g, hg⟩ : ∃ g, rp3 ax ay bx b_y cx cy = g := ⟨_, rfl⟩
  obtain ⟨s, hs⟩ : ∃ s : Int, (trn ax ay bx b_y cx cy).sign = s := ⟨_, rfl⟩
  obtain ⟨z, hz⟩ : ∃ z : Bool, (s == 0) = z := ⟨_, rfl⟩
  obtain ⟨x, hx⟩ : ∃ x : Bool, btw ax bx cx = x := ⟨_, rfl⟩
  obtain ⟨y, hy⟩ : ∃ y : Bool, btw ay b_y cy = y := ⟨_, rfl⟩
  rw [hg, hs, hz, hx, hy]
  have HG := Lib.hid hg
  have HS := Lib.hid hs
  have HX := Lib.hid hx
  have HY := Lib.hid hy
  clear hg hs hx hy
  go_enter Try.func13, Try.ntmps13
  go_wp2_with fail
  refine calls_w ?_
  intro W hW
  have ka : PVar W w.heap.size ax ay := by rw [hW]; exact (Blk.new w _ _).alloc _ |>.alloc _ |>.alloc _
  have kb : PVar W (w.heap.size + 1) bx b_y := by rw [hW]; exact (Blk.new1 w _ _ _).alloc _ |>.alloc _
  have kc : PVar W (w.heap.size + 1 + 1) cx cy := by rw [hW]; exact (Blk.new2 w _ _ _ _).alloc _
  have kl : Blk W (w.heap.size + 1 + 1 + 1) #[.int .i64 ax, .int .i64 ay, .int .i64 bx, .int .i64 b_y, .int .i64 cx, .int .i64 cy] 25 := by rw [hW]; exact Blk.new3 w _ _ _ _ _
  have hb0 : Below w.heap.size w W := by rw [hW]; exact (below_a3 _ _ _ _).alloc (by simp; omega) _
  clear hW
  refine (right3_is ax ay bx b_y cx cy g HG.out _ _ _ kl).mono ?_
  rintro e u1 ⟨rfl, hn⟩
  replace ka : PVar u1 _ _ _ := ka.of hn
  replace kb : PVar u1 _ _ _ := kb.of hn
  replace kc : PVar u1 _ _ _ := kc.of hn
  replace hb0 := hb0.trans (hn.mono hb0.size)
  clear hn kl
  have ca := PVar.c ka
  have cb := PVar.c kb
  have cc := PVar.c kc
  cases g
  · go_wp2
    go_ret
    exact ⟨rfl, hb0⟩
  · obtain ⟨h1, h2, h3, h4, h5, h6⟩ := rp3_co HG.out
    have HT := trn_bd h1 h2 h3 h4 h5 h6
    go_wp2_with fail
    refine (turn_any ax ay bx b_y cx cy h1 h2 h3 h4 h5 h6 _).mono ?_
    rintro e u2 ⟨rfl, hn⟩
    replace ka : PVar u2 _ _ _ := ka.of hn
    replace kb : PVar u2 _ _ _ := kb.of hn
    replace kc : PVar u2 _ _ _ := kc.of hn
    replace hb0 := hb0.trans (hn.mono hb0.size)
    clear hn ca cb cc
    go_wp2_with fail
    refine (Sign_is _ s HS.out _ (by unfold InI b255; omega)).mono ?_
    rintro e u3 ⟨rfl, hn⟩
    replace ka : PVar u3 _ _ _ := ka.of hn
    replace kb : PVar u3 _ _ _ := kb.of hn
    replace kc : PVar u3 _ _ _ := kc.of hn
    replace hb0 := hb0.trans (hn.mono hb0.size)
    have ca := PVar.c ka
    have cb := PVar.c kb
    have cc := PVar.c kc
    clear hn
    cases z
    · go_wp2
      go_ret
      exact ⟨rfl, hb0⟩
    · go_wp2_with fail
      refine (between_any ax bx cx _).mono ?_
      rintro e u4 ⟨rfl, hn⟩
      rw [HX.out]
      replace ka : PVar u4 _ _ _ := ka.of hn
      replace kb : PVar u4 _ _ _ := kb.of hn
      replace kc : PVar u4 _ _ _ := kc.of hn
      replace hb0 := hb0.trans (hn.mono hb0.size)
      clear ca cb cc
      have ca := PVar.c ka
      have cb := PVar.c kb
      have cc := PVar.c kc
      clear hn
      cases x
      · go_wp2
        go_ret
        exact ⟨rfl, hb0⟩
      · go_wp2_with fail
        refine (between_any ay b_y cy _).mono ?_
        rintro e u5 ⟨rfl, hn⟩
        rw [HY.out]
        replace hb0 := hb0.trans (hn.mono hb0.size)
        clear hn
        go_wp2
        go_ret
        exact ⟨by simp, hb0⟩
end Go.Proofs.Ytdcihglpfchcmaa
namespace Go.Proofs.Ytdcihglpfchcmaa
open Go.RowKit

theorem far_is (ax ay bx b_y f : Int) (hf : frr ax ay bx b_y = f) (h1 : Co ax) (h2 : Co ay) (h3 : Co bx) (h4 : Co b_y) (w : World) :
    Calls Try.prog 27 #[pI ax ay, pI bx b_y] w fun e w' => e = .returned (wI f) ∧ Below w.heap.size w w' := hf ▸ far_any ax ay bx b_y h1 h2 h3 h4 w
theorem turn_is (ax ay bx b_y cx cy f : Int) (hf : trn ax ay bx b_y cx cy = f) (h1 : Co ax) (h2 : Co ay) (h3 : Co bx) (h4 : Co b_y) (h5 : Co cx) (h6 : Co cy) (w : World) :
    Calls Try.prog 23 #[pI ax ay, pI bx b_y, pI cx cy] w fun e w' => e = .returned (wI f) ∧ Below w.heap.size w w' := hf ▸ turn_any ax ay bx b_y cx cy h1 h2 h3 h4 h5 h6 w

/-- the sum of the three -/
def crs (ax ay bx b_y cx cy px py : Int) : Int := frr ax ay px py * trn px py bx b_y cx cy + frr bx b_y px py * trn px py cx cy ax ay + frr cx cy px py * trn px py ax ay bx b_y
/-- where one lies to a circle -/
def crc (ax ay bx b_y cx cy px py : Int) : Int := bif rp4 ax ay bx b_y cx cy px py then (crs ax ay bx b_y cx cy px py).sign * (trn ax ay bx b_y cx cy).sign else 0
theorem rp4_co {ax ay bx b_y cx cy dx dy : Int} (h : rp4 ax ay bx b_y cx cy dx dy = true) : Co ax ∧ Co ay ∧ Co bx ∧ Co b_y ∧ Co cx ∧ Co cy ∧ Co dx ∧ Co dy := by
  unfold rp4 at h; rw [Bool.and_eq_true, Bool.and_eq_true, Bool.and_eq_true] at h
  obtain ⟨⟨⟨h1, h2⟩, h3⟩, h4⟩ := h
  exact ⟨(rp_co h1).1, (rp_co h1).2, (rp_co h2).1, (rp_co h2).2, (rp_co h3).1, (rp_co h3).2, (rp_co h4).1, (rp_co h4).2⟩

set_option maxRecDepth 100000 in
set_option maxHeartbeats 4000000 in
theorem Circle_go (ax ay bx b_y cx cy px py f1 f2 f3 t0 t1 t2 t3 m1 m2 m3 s1 s2 z1 z2 z : Int) (A1 : Co ax) (A2 : Co ay) (B1 : Co bx) (B2 : Co b_y) (C1 : Co cx) (C2 : Co cy) (P1 : Co px) (P2 : Co py) (hg : rp4 ax ay bx b_y cx cy px py = true)
    (hf1 : frr ax ay px py = f1) (hf2 : frr bx b_y px py = f2) (hf3 : frr cx cy px py = f3) (ht0 : trn ax ay bx b_y cx cy = t0) (ht1 : trn px py bx b_y cx cy = t1) (ht2 : trn px py cx cy ax ay = t2) (ht3 : trn px py ax ay bx b_y = t3)
    (hm1 : f1 * t1 = m1) (hm2 : f2 * t2 = m2) (hm3 : f3 * t3 = m3) (hs1 : m1 + m2 = s1) (hs2 : s1 + m3 = s2) (hz1 : s2.sign = z1) (hz2 : t0.sign = z2) (hz : wrap64 (z1 * z2) = z)
    (if1 : InI f1) (if2 : InI f2) (if3 : InI f3) (it0 : InI t0) (it1 : InI t1) (it2 : InI t2) (it3 : InI t3) (im1 : InI m1) (im2 : InI m2) (im3 : InI m3) (is1 : InI s1) (is2 : InI s2) (w : World) :
    Calls Try.prog 12 #[pI ax ay, pI bx b_y, pI cx cy, pI px py] w fun e w' => e = .returned (.int .i64 z) ∧ Below w.heap.size w w' := by
  have HG := Lib.hid hg
  clear hg
  have HF1 := Lib.hid hf1
  clear hf1
  have HF2 := Lib.hid hf2
  clear hf2
  have HF3 := Lib.hid hf3
  clear hf3
  have HT0 := Lib.hid ht0
  clear ht0
  have HT1 := Lib.hid ht1
  clear ht1
  have HT2 := Lib.hid ht2
  clear ht2
  have HT3 := Lib.hid ht3
  clear ht3
  have HM1 := Lib.hid hm1
  clear hm1
  have HM2 := Lib.hid hm2
  clear hm2
  have HM3 := Lib.hid hm3
  clear hm3
  have HS1 := Lib.hid hs1
  clear hs1
  have HS2 := Lib.hid hs2
  clear hs2
  have HZ1 := Lib.hid hz1
  clear hz1
  have HZ2 := Lib.hid hz2
  clear hz2
  have HZ := Lib.hid hz
  clear hz
  go_enter Try.func12, Try.ntmps12
  go_wp2_with fail
  refine calls_w ?_
  intro W hW
  have ka : PVar W w.heap.size ax ay := by rw [hW]; exact (Blk.new w _ _).alloc _ |>.alloc _ |>.alloc _ |>.alloc _
  have kb : PVar W (w.heap.size + 1) bx b_y := by rw [hW]; exact (Blk.new1 w _ _ _).alloc _ |>.alloc _ |>.alloc _
  have kc : PVar W (w.heap.size + 1 + 1) cx cy := by rw [hW]; exact (Blk.new2 w _ _ _ _).alloc _ |>.alloc _
  have kp : PVar W (w.heap.size + 1 + 1 + 1) px py := by rw [hW]; exact (Blk.new3 w _ _ _ _ _).alloc _
  have kl : Blk W (w.heap.size + 1 + 1 + 1 + 1) #[.int .i64 ax, .int .i64 ay, .int .i64 bx, .int .i64 b_y, .int .i64 cx, .int .i64 cy, .int .i64 px, .int .i64 py] 25 := by rw [hW]; exact Blk.newAt _ _ (by simp) _ _
  have hb0 : Below w.heap.size w W := by rw [hW]; exact ((below_a3 _ _ _ _).alloc (by simp; omega) _).alloc (by simp; omega) _
  clear hW
  refine (right4_is ax ay bx b_y cx cy px py true HG.out _ _ _ kl).mono ?_
  rintro e u1 ⟨rfl, hn⟩
  replace ka : PVar u1 _ _ _ := ka.of hn
  replace kb : PVar u1 _ _ _ := kb.of hn
  replace kc : PVar u1 _ _ _ := kc.of hn
  replace kp : PVar u1 _ _ _ := kp.of hn
  replace hb0 := hb0.trans (hn.mono hb0.size)
  clear hn kl
  go_wp2_with fail
  have ca := PVar.c ka
  have cb := PVar.c kb
  have cc := PVar.c kc
  have cp := PVar.c kp
  have la := ka.lt
  have lb := kb.lt
  have lc := kc.lt
  have lp := kp.lt
  have KA := Lib.hid ka
  have KB := Lib.hid kb
  have KC := Lib.hid kc
  have KP := Lib.hid kp
  clear ka kb kc kp
  refine wp_region_float1 27 26 [(true, 0), (true, 1), (true, 3), (true, 4), (true, 5), (true, 8), (true, 9), (true, 11), (true, 12), (true, 13), (true, 17), (true, 18), (true, 20), (true, 21), (true, 22), (false, 2), (false, 6), (false, 7), (false, 10), (false, 14), (false, 15), (false, 16), (false, 19), (false, 23), (false, 24), (false, 25)] (by kernel_rfl) (by kernel_rfl) (fun _ _ d _ _ => by cases d <;> exact Iff.rfl) rfl rfl rfl allocI ?_
  have hb : Below u1.heap.size u1 u1.drew := (Below.refl _ _).drew
  iterate 15
    refine wpF_take rfl rfl ?_
    go_big_quiet_step (rfl)
    refine wpQuiet_nil ?_
  refine wpF_do rfl ?_
  intro w1 hg K hK
  replace hb := hb.trans (hg.mono hb.size)
  clear hg
  go_wp2_with ((first | (go_at_call 27; (with_reducible refine (far_is ax ay px py f1 HF1.out A1 A2 P1 P2 _).mono ?_); rintro e w2 ⟨rfl, hn⟩) | (go_at_call 23; (with_reducible refine (turn_is px py bx b_y cx cy t1 HT1.out P1 P2 B1 B2 C1 C2 _).mono ?_); rintro e w2 ⟨rfl, hn⟩) | (go_at_call 26; (with_reducible refine (times_is f1 t1 m1 HM1.out im1 _ if1 it1).mono ?_); rintro e w2 ⟨rfl, hn⟩) | (go_at_call 27; (with_reducible refine (far_is bx b_y px py f2 HF2.out B1 B2 P1 P2 _).mono ?_); rintro e w2 ⟨rfl, hn⟩) | (go_at_call 23; (with_reducible refine (turn_is px py cx cy ax ay t2 HT2.out P1 P2 C1 C2 A1 A2 _).mono ?_); rintro e w2 ⟨rfl, hn⟩) | (go_at_call 26; (with_reducible refine (times_is f2 t2 m2 HM2.out im2 _ if2 it2).mono ?_); rintro e w2 ⟨rfl, hn⟩) | (go_at_call 25; (with_reducible refine (plus_is m1 m2 s1 HS1.out is1 _ im1 im2).mono ?_); rintro e w2 ⟨rfl, hn⟩) | (go_at_call 27; (with_reducible refine (far_is cx cy px py f3 HF3.out C1 C2 P1 P2 _).mono ?_); rintro e w2 ⟨rfl, hn⟩) | (go_at_call 23; (with_reducible refine (turn_is px py ax ay bx b_y t3 HT3.out P1 P2 A1 A2 B1 B2 _).mono ?_); rintro e w2 ⟨rfl, hn⟩) | (go_at_call 26; (with_reducible refine (times_is f3 t3 m3 HM3.out im3 _ if3 it3).mono ?_); rintro e w2 ⟨rfl, hn⟩) | (go_at_call 25; (with_reducible refine (plus_is s1 m3 s2 HS2.out is2 _ is1 im3).mono ?_); rintro e w2 ⟨rfl, hn⟩)))
  refine hK.out _ _ hn ?_
  replace hb := hb.trans (hn.mono hb.size)
  clear hK K
  clear hn
  refine wpF_do rfl ?_
  intro w1 hg K hK
  replace hb := hb.trans (hg.mono hb.size)
  clear hg
  go_wp2_with ((first | (go_at_call 27; (with_reducible refine (far_is ax ay px py f1 HF1.out A1 A2 P1 P2 _).mono ?_); rintro e w2 ⟨rfl, hn⟩) | (go_at_call 23; (with_reducible refine (turn_is px py bx b_y cx cy t1 HT1.out P1 P2 B1 B2 C1 C2 _).mono ?_); rintro e w2 ⟨rfl, hn⟩) | (go_at_call 26; (with_reducible refine (times_is f1 t1 m1 HM1.out im1 _ if1 it1).mono ?_); rintro e w2 ⟨rfl, hn⟩) | (go_at_call 27; (with_reducible refine (far_is bx b_y px py f2 HF2.out B1 B2 P1 P2 _).mono ?_); rintro e w2 ⟨rfl, hn⟩) | (go_at_call 23; (with_reducible refine (turn_is px py cx cy ax ay t2 HT2.out P1 P2 C1 C2 A1 A2 _).mono ?_); rintro e w2 ⟨rfl, hn⟩) | (go_at_call 26; (with_reducible refine (times_is f2 t2 m2 HM2.out im2 _ if2 it2).mono ?_); rintro e w2 ⟨rfl, hn⟩) | (go_at_call 25; (with_reducible refine (plus_is m1 m2 s1 HS1.out is1 _ im1 im2).mono ?_); rintro e w2 ⟨rfl, hn⟩) | (go_at_call 27; (with_reducible refine (far_is cx cy px py f3 HF3.out C1 C2 P1 P2 _).mono ?_); rintro e w2 ⟨rfl, hn⟩) | (go_at_call 23; (with_reducible refine (turn_is px py ax ay bx b_y t3 HT3.out P1 P2 A1 A2 B1 B2 _).mono ?_); rintro e w2 ⟨rfl, hn⟩) | (go_at_call 26; (with_reducible refine (times_is f3 t3 m3 HM3.out im3 _ if3 it3).mono ?_); rintro e w2 ⟨rfl, hn⟩) | (go_at_call 25; (with_reducible refine (plus_is s1 m3 s2 HS2.out is2 _ is1 im3).mono ?_); rintro e w2 ⟨rfl, hn⟩)))
  refine hK.out _ _ hn ?_
  replace hb := hb.trans (hn.mono hb.size)
  clear hK K
  clear hn
  refine wpF_do rfl ?_
  intro w1 hg K hK
  replace hb := hb.trans (hg.mono hb.size)
  clear hg
  go_wp2_with ((first | (go_at_call 27; (with_reducible refine (far_is ax ay px py f1 HF1.out A1 A2 P1 P2 _).mono ?_); rintro e w2 ⟨rfl, hn⟩) | (go_at_call 23; (with_reducible refine (turn_is px py bx b_y cx cy t1 HT1.out P1 P2 B1 B2 C1 C2 _).mono ?_); rintro e w2 ⟨rfl, hn⟩) | (go_at_call 26; (with_reducible refine (times_is f1 t1 m1 HM1.out im1 _ if1 it1).mono ?_); rintro e w2 ⟨rfl, hn⟩) | (go_at_call 27; (with_reducible refine (far_is bx b_y px py f2 HF2.out B1 B2 P1 P2 _).mono ?_); rintro e w2 ⟨rfl, hn⟩) | (go_at_call 23; (with_reducible refine (turn_is px py cx cy ax ay t2 HT2.out P1 P2 C1 C2 A1 A2 _).mono ?_); rintro e w2 ⟨rfl, hn⟩) | (go_at_call 26; (with_reducible refine (times_is f2 t2 m2 HM2.out im2 _ if2 it2).mono ?_); rintro e w2 ⟨rfl, hn⟩) | (go_at_call 25; (with_reducible refine (plus_is m1 m2 s1 HS1.out is1 _ im1 im2).mono ?_); rintro e w2 ⟨rfl, hn⟩) | (go_at_call 27; (with_reducible refine (far_is cx cy px py f3 HF3.out C1 C2 P1 P2 _).mono ?_); rintro e w2 ⟨rfl, hn⟩) | (go_at_call 23; (with_reducible refine (turn_is px py ax ay bx b_y t3 HT3.out P1 P2 A1 A2 B1 B2 _).mono ?_); rintro e w2 ⟨rfl, hn⟩) | (go_at_call 26; (with_reducible refine (times_is f3 t3 m3 HM3.out im3 _ if3 it3).mono ?_); rintro e w2 ⟨rfl, hn⟩) | (go_at_call 25; (with_reducible refine (plus_is s1 m3 s2 HS2.out is2 _ is1 im3).mono ?_); rintro e w2 ⟨rfl, hn⟩)))
  refine hK.out _ _ hn ?_
  replace hb := hb.trans (hn.mono hb.size)
  clear hK K
  clear hn
  refine wpF_do rfl ?_
  intro w1 hg K hK
  replace hb := hb.trans (hg.mono hb.size)
  clear hg
  go_wp2_with ((first | (go_at_call 27; (with_reducible refine (far_is ax ay px py f1 HF1.out A1 A2 P1 P2 _).mono ?_); rintro e w2 ⟨rfl, hn⟩) | (go_at_call 23; (with_reducible refine (turn_is px py bx b_y cx cy t1 HT1.out P1 P2 B1 B2 C1 C2 _).mono ?_); rintro e w2 ⟨rfl, hn⟩) | (go_at_call 26; (with_reducible refine (times_is f1 t1 m1 HM1.out im1 _ if1 it1).mono ?_); rintro e w2 ⟨rfl, hn⟩) | (go_at_call 27; (with_reducible refine (far_is bx b_y px py f2 HF2.out B1 B2 P1 P2 _).mono ?_); rintro e w2 ⟨rfl, hn⟩) | (go_at_call 23; (with_reducible refine (turn_is px py cx cy ax ay t2 HT2.out P1 P2 C1 C2 A1 A2 _).mono ?_); rintro e w2 ⟨rfl, hn⟩) | (go_at_call 26; (with_reducible refine (times_is f2 t2 m2 HM2.out im2 _ if2 it2).mono ?_); rintro e w2 ⟨rfl, hn⟩) | (go_at_call 25; (with_reducible refine (plus_is m1 m2 s1 HS1.out is1 _ im1 im2).mono ?_); rintro e w2 ⟨rfl, hn⟩) | (go_at_call 27; (with_reducible refine (far_is cx cy px py f3 HF3.out C1 C2 P1 P2 _).mono ?_); rintro e w2 ⟨rfl, hn⟩) | (go_at_call 23; (with_reducible refine (turn_is px py ax ay bx b_y t3 HT3.out P1 P2 A1 A2 B1 B2 _).mono ?_); rintro e w2 ⟨rfl, hn⟩) | (go_at_call 26; (with_reducible refine (times_is f3 t3 m3 HM3.out im3 _ if3 it3).mono ?_); rintro e w2 ⟨rfl, hn⟩) | (go_at_call 25; (with_reducible refine (plus_is s1 m3 s2 HS2.out is2 _ is1 im3).mono ?_); rintro e w2 ⟨rfl, hn⟩)))
  refine hK.out _ _ hn ?_
  replace hb := hb.trans (hn.mono hb.size)
  clear hK K
  clear hn
  refine wpF_do rfl ?_
  intro w1 hg K hK
  replace hb := hb.trans (hg.mono hb.size)
  clear hg
  go_wp2_with ((first | (go_at_call 27; (with_reducible refine (far_is ax ay px py f1 HF1.out A1 A2 P1 P2 _).mono ?_); rintro e w2 ⟨rfl, hn⟩) | (go_at_call 23; (with_reducible refine (turn_is px py bx b_y cx cy t1 HT1.out P1 P2 B1 B2 C1 C2 _).mono ?_); rintro e w2 ⟨rfl, hn⟩) | (go_at_call 26; (with_reducible refine (times_is f1 t1 m1 HM1.out im1 _ if1 it1).mono ?_); rintro e w2 ⟨rfl, hn⟩) | (go_at_call 27; (with_reducible refine (far_is bx b_y px py f2 HF2.out B1 B2 P1 P2 _).mono ?_); rintro e w2 ⟨rfl, hn⟩) | (go_at_call 23; (with_reducible refine (turn_is px py cx cy ax ay t2 HT2.out P1 P2 C1 C2 A1 A2 _).mono ?_); rintro e w2 ⟨rfl, hn⟩) | (go_at_call 26; (with_reducible refine (times_is f2 t2 m2 HM2.out im2 _ if2 it2).mono ?_); rintro e w2 ⟨rfl, hn⟩) | (go_at_call 25; (with_reducible refine (plus_is m1 m2 s1 HS1.out is1 _ im1 im2).mono ?_); rintro e w2 ⟨rfl, hn⟩) | (go_at_call 27; (with_reducible refine (far_is cx cy px py f3 HF3.out C1 C2 P1 P2 _).mono ?_); rintro e w2 ⟨rfl, hn⟩) | (go_at_call 23; (with_reducible refine (turn_is px py ax ay bx b_y t3 HT3.out P1 P2 A1 A2 B1 B2 _).mono ?_); rintro e w2 ⟨rfl, hn⟩) | (go_at_call 26; (with_reducible refine (times_is f3 t3 m3 HM3.out im3 _ if3 it3).mono ?_); rintro e w2 ⟨rfl, hn⟩) | (go_at_call 25; (with_reducible refine (plus_is s1 m3 s2 HS2.out is2 _ is1 im3).mono ?_); rintro e w2 ⟨rfl, hn⟩)))
  refine hK.out _ _ hn ?_
  replace hb := hb.trans (hn.mono hb.size)
  clear hK K
  clear hn
  refine wpF_do rfl ?_
  intro w1 hg K hK
  replace hb := hb.trans (hg.mono hb.size)
  clear hg
  go_wp2_with ((first | (go_at_call 27; (with_reducible refine (far_is ax ay px py f1 HF1.out A1 A2 P1 P2 _).mono ?_); rintro e w2 ⟨rfl, hn⟩) | (go_at_call 23; (with_reducible refine (turn_is px py bx b_y cx cy t1 HT1.out P1 P2 B1 B2 C1 C2 _).mono ?_); rintro e w2 ⟨rfl, hn⟩) | (go_at_call 26; (with_reducible refine (times_is f1 t1 m1 HM1.out im1 _ if1 it1).mono ?_); rintro e w2 ⟨rfl, hn⟩) | (go_at_call 27; (with_reducible refine (far_is bx b_y px py f2 HF2.out B1 B2 P1 P2 _).mono ?_); rintro e w2 ⟨rfl, hn⟩) | (go_at_call 23; (with_reducible refine (turn_is px py cx cy ax ay t2 HT2.out P1 P2 C1 C2 A1 A2 _).mono ?_); rintro e w2 ⟨rfl, hn⟩) | (go_at_call 26; (with_reducible refine (times_is f2 t2 m2 HM2.out im2 _ if2 it2).mono ?_); rintro e w2 ⟨rfl, hn⟩) | (go_at_call 25; (with_reducible refine (plus_is m1 m2 s1 HS1.out is1 _ im1 im2).mono ?_); rintro e w2 ⟨rfl, hn⟩) | (go_at_call 27; (with_reducible refine (far_is cx cy px py f3 HF3.out C1 C2 P1 P2 _).mono ?_); rintro e w2 ⟨rfl, hn⟩) | (go_at_call 23; (with_reducible refine (turn_is px py ax ay bx b_y t3 HT3.out P1 P2 A1 A2 B1 B2 _).mono ?_); rintro e w2 ⟨rfl, hn⟩) | (go_at_call 26; (with_reducible refine (times_is f3 t3 m3 HM3.out im3 _ if3 it3).mono ?_); rintro e w2 ⟨rfl, hn⟩) | (go_at_call 25; (with_reducible refine (plus_is s1 m3 s2 HS2.out is2 _ is1 im3).mono ?_); rintro e w2 ⟨rfl, hn⟩)))
  refine hK.out _ _ hn ?_
  replace hb := hb.trans (hn.mono hb.size)
  clear hK K
  clear hn
  refine wpF_do rfl ?_
  intro w1 hg K hK
  replace hb := hb.trans (hg.mono hb.size)
  clear hg
  go_wp2_with ((first | (go_at_call 27; (with_reducible refine (far_is ax ay px py f1 HF1.out A1 A2 P1 P2 _).mono ?_); rintro e w2 ⟨rfl, hn⟩) | (go_at_call 23; (with_reducible refine (turn_is px py bx b_y cx cy t1 HT1.out P1 P2 B1 B2 C1 C2 _).mono ?_); rintro e w2 ⟨rfl, hn⟩) | (go_at_call 26; (with_reducible refine (times_is f1 t1 m1 HM1.out im1 _ if1 it1).mono ?_); rintro e w2 ⟨rfl, hn⟩) | (go_at_call 27; (with_reducible refine (far_is bx b_y px py f2 HF2.out B1 B2 P1 P2 _).mono ?_); rintro e w2 ⟨rfl, hn⟩) | (go_at_call 23; (with_reducible refine (turn_is px py cx cy ax ay t2 HT2.out P1 P2 C1 C2 A1 A2 _).mono ?_); rintro e w2 ⟨rfl, hn⟩) | (go_at_call 26; (with_reducible refine (times_is f2 t2 m2 HM2.out im2 _ if2 it2).mono ?_); rintro e w2 ⟨rfl, hn⟩) | (go_at_call 25; (with_reducible refine (plus_is m1 m2 s1 HS1.out is1 _ im1 im2).mono ?_); rintro e w2 ⟨rfl, hn⟩) | (go_at_call 27; (with_reducible refine (far_is cx cy px py f3 HF3.out C1 C2 P1 P2 _).mono ?_); rintro e w2 ⟨rfl, hn⟩) | (go_at_call 23; (with_reducible refine (turn_is px py ax ay bx b_y t3 HT3.out P1 P2 A1 A2 B1 B2 _).mono ?_); rintro e w2 ⟨rfl, hn⟩) | (go_at_call 26; (with_reducible refine (times_is f3 t3 m3 HM3.out im3 _ if3 it3).mono ?_); rintro e w2 ⟨rfl, hn⟩) | (go_at_call 25; (with_reducible refine (plus_is s1 m3 s2 HS2.out is2 _ is1 im3).mono ?_); rintro e w2 ⟨rfl, hn⟩)))
  refine hK.out _ _ hn ?_
  replace hb := hb.trans (hn.mono hb.size)
  clear hK K
  clear hn
  refine wpF_do rfl ?_
  intro w1 hg K hK
  replace hb := hb.trans (hg.mono hb.size)
  clear hg
  go_wp2_with ((first | (go_at_call 27; (with_reducible refine (far_is ax ay px py f1 HF1.out A1 A2 P1 P2 _).mono ?_); rintro e w2 ⟨rfl, hn⟩) | (go_at_call 23; (with_reducible refine (turn_is px py bx b_y cx cy t1 HT1.out P1 P2 B1 B2 C1 C2 _).mono ?_); rintro e w2 ⟨rfl, hn⟩) | (go_at_call 26; (with_reducible refine (times_is f1 t1 m1 HM1.out im1 _ if1 it1).mono ?_); rintro e w2 ⟨rfl, hn⟩) | (go_at_call 27; (with_reducible refine (far_is bx b_y px py f2 HF2.out B1 B2 P1 P2 _).mono ?_); rintro e w2 ⟨rfl, hn⟩) | (go_at_call 23; (with_reducible refine (turn_is px py cx cy ax ay t2 HT2.out P1 P2 C1 C2 A1 A2 _).mono ?_); rintro e w2 ⟨rfl, hn⟩) | (go_at_call 26; (with_reducible refine (times_is f2 t2 m2 HM2.out im2 _ if2 it2).mono ?_); rintro e w2 ⟨rfl, hn⟩) | (go_at_call 25; (with_reducible refine (plus_is m1 m2 s1 HS1.out is1 _ im1 im2).mono ?_); rintro e w2 ⟨rfl, hn⟩) | (go_at_call 27; (with_reducible refine (far_is cx cy px py f3 HF3.out C1 C2 P1 P2 _).mono ?_); rintro e w2 ⟨rfl, hn⟩) | (go_at_call 23; (with_reducible refine (turn_is px py ax ay bx b_y t3 HT3.out P1 P2 A1 A2 B1 B2 _).mono ?_); rintro e w2 ⟨rfl, hn⟩) | (go_at_call 26; (with_reducible refine (times_is f3 t3 m3 HM3.out im3 _ if3 it3).mono ?_); rintro e w2 ⟨rfl, hn⟩) | (go_at_call 25; (with_reducible refine (plus_is s1 m3 s2 HS2.out is2 _ is1 im3).mono ?_); rintro e w2 ⟨rfl, hn⟩)))
  refine hK.out _ _ hn ?_
  replace hb := hb.trans (hn.mono hb.size)
  clear hK K
  clear hn
  refine wpF_do rfl ?_
  intro w1 hg K hK
  replace hb := hb.trans (hg.mono hb.size)
  clear hg
  go_wp2_with ((first | (go_at_call 27; (with_reducible refine (far_is ax ay px py f1 HF1.out A1 A2 P1 P2 _).mono ?_); rintro e w2 ⟨rfl, hn⟩) | (go_at_call 23; (with_reducible refine (turn_is px py bx b_y cx cy t1 HT1.out P1 P2 B1 B2 C1 C2 _).mono ?_); rintro e w2 ⟨rfl, hn⟩) | (go_at_call 26; (with_reducible refine (times_is f1 t1 m1 HM1.out im1 _ if1 it1).mono ?_); rintro e w2 ⟨rfl, hn⟩) | (go_at_call 27; (with_reducible refine (far_is bx b_y px py f2 HF2.out B1 B2 P1 P2 _).mono ?_); rintro e w2 ⟨rfl, hn⟩) | (go_at_call 23; (with_reducible refine (turn_is px py cx cy ax ay t2 HT2.out P1 P2 C1 C2 A1 A2 _).mono ?_); rintro e w2 ⟨rfl, hn⟩) | (go_at_call 26; (with_reducible refine (times_is f2 t2 m2 HM2.out im2 _ if2 it2).mono ?_); rintro e w2 ⟨rfl, hn⟩) | (go_at_call 25; (with_reducible refine (plus_is m1 m2 s1 HS1.out is1 _ im1 im2).mono ?_); rintro e w2 ⟨rfl, hn⟩) | (go_at_call 27; (with_reducible refine (far_is cx cy px py f3 HF3.out C1 C2 P1 P2 _).mono ?_); rintro e w2 ⟨rfl, hn⟩) | (go_at_call 23; (with_reducible refine (turn_is px py ax ay bx b_y t3 HT3.out P1 P2 A1 A2 B1 B2 _).mono ?_); rintro e w2 ⟨rfl, hn⟩) | (go_at_call 26; (with_reducible refine (times_is f3 t3 m3 HM3.out im3 _ if3 it3).mono ?_); rintro e w2 ⟨rfl, hn⟩) | (go_at_call 25; (with_reducible refine (plus_is s1 m3 s2 HS2.out is2 _ is1 im3).mono ?_); rintro e w2 ⟨rfl, hn⟩)))
  refine hK.out _ _ hn ?_
  replace hb := hb.trans (hn.mono hb.size)
  clear hK K
  clear hn
  refine wpF_do rfl ?_
  intro w1 hg K hK
  replace hb := hb.trans (hg.mono hb.size)
  clear hg
  go_wp2_with ((first | (go_at_call 27; (with_reducible refine (far_is ax ay px py f1 HF1.out A1 A2 P1 P2 _).mono ?_); rintro e w2 ⟨rfl, hn⟩) | (go_at_call 23; (with_reducible refine (turn_is px py bx b_y cx cy t1 HT1.out P1 P2 B1 B2 C1 C2 _).mono ?_); rintro e w2 ⟨rfl, hn⟩) | (go_at_call 26; (with_reducible refine (times_is f1 t1 m1 HM1.out im1 _ if1 it1).mono ?_); rintro e w2 ⟨rfl, hn⟩) | (go_at_call 27; (with_reducible refine (far_is bx b_y px py f2 HF2.out B1 B2 P1 P2 _).mono ?_); rintro e w2 ⟨rfl, hn⟩) | (go_at_call 23; (with_reducible refine (turn_is px py cx cy ax ay t2 HT2.out P1 P2 C1 C2 A1 A2 _).mono ?_); rintro e w2 ⟨rfl, hn⟩) | (go_at_call 26; (with_reducible refine (times_is f2 t2 m2 HM2.out im2 _ if2 it2).mono ?_); rintro e w2 ⟨rfl, hn⟩) | (go_at_call 25; (with_reducible refine (plus_is m1 m2 s1 HS1.out is1 _ im1 im2).mono ?_); rintro e w2 ⟨rfl, hn⟩) | (go_at_call 27; (with_reducible refine (far_is cx cy px py f3 HF3.out C1 C2 P1 P2 _).mono ?_); rintro e w2 ⟨rfl, hn⟩) | (go_at_call 23; (with_reducible refine (turn_is px py ax ay bx b_y t3 HT3.out P1 P2 A1 A2 B1 B2 _).mono ?_); rintro e w2 ⟨rfl, hn⟩) | (go_at_call 26; (with_reducible refine (times_is f3 t3 m3 HM3.out im3 _ if3 it3).mono ?_); rintro e w2 ⟨rfl, hn⟩) | (go_at_call 25; (with_reducible refine (plus_is s1 m3 s2 HS2.out is2 _ is1 im3).mono ?_); rintro e w2 ⟨rfl, hn⟩)))
  refine hK.out _ _ hn ?_
  replace hb := hb.trans (hn.mono hb.size)
  clear hK K
  clear hn
  refine wpF_do rfl ?_
  intro w1 hg K hK
  replace hb := hb.trans (hg.mono hb.size)
  clear hg
  go_wp2_with ((first | (go_at_call 27; (with_reducible refine (far_is ax ay px py f1 HF1.out A1 A2 P1 P2 _).mono ?_); rintro e w2 ⟨rfl, hn⟩) | (go_at_call 23; (with_reducible refine (turn_is px py bx b_y cx cy t1 HT1.out P1 P2 B1 B2 C1 C2 _).mono ?_); rintro e w2 ⟨rfl, hn⟩) | (go_at_call 26; (with_reducible refine (times_is f1 t1 m1 HM1.out im1 _ if1 it1).mono ?_); rintro e w2 ⟨rfl, hn⟩) | (go_at_call 27; (with_reducible refine (far_is bx b_y px py f2 HF2.out B1 B2 P1 P2 _).mono ?_); rintro e w2 ⟨rfl, hn⟩) | (go_at_call 23; (with_reducible refine (turn_is px py cx cy ax ay t2 HT2.out P1 P2 C1 C2 A1 A2 _).mono ?_); rintro e w2 ⟨rfl, hn⟩) | (go_at_call 26; (with_reducible refine (times_is f2 t2 m2 HM2.out im2 _ if2 it2).mono ?_); rintro e w2 ⟨rfl, hn⟩) | (go_at_call 25; (with_reducible refine (plus_is m1 m2 s1 HS1.out is1 _ im1 im2).mono ?_); rintro e w2 ⟨rfl, hn⟩) | (go_at_call 27; (with_reducible refine (far_is cx cy px py f3 HF3.out C1 C2 P1 P2 _).mono ?_); rintro e w2 ⟨rfl, hn⟩) | (go_at_call 23; (with_reducible refine (turn_is px py ax ay bx b_y t3 HT3.out P1 P2 A1 A2 B1 B2 _).mono ?_); rintro e w2 ⟨rfl, hn⟩) | (go_at_call 26; (with_reducible refine (times_is f3 t3 m3 HM3.out im3 _ if3 it3).mono ?_); rintro e w2 ⟨rfl, hn⟩) | (go_at_call 25; (with_reducible refine (plus_is s1 m3 s2 HS2.out is2 _ is1 im3).mono ?_); rintro e w2 ⟨rfl, hn⟩)))
  refine hK.out _ _ hn ?_
  replace hb := hb.trans (hn.mono hb.size)
  clear hK K
  clear hn
  refine wpF_nil ?_
  clear hb
  intro w1 hg hb b1 lb1 nb1
  clear hg
  simp only [Act.put, ptrTo, List.setIfInBounds_toArray, List.set_cons_succ, List.set_cons_zero]
  simp only [List.drop_succ_cons, List.drop_zero]
  have v3 : Var w1 b1 0 := nb1
  have c3 := v3.c
  have f3' := v3.f
  have n3 : b1 < w1.heap.size := Blk.lt nb1
  have da : w.heap.size ≠ b1 := by omega
  have db : w.heap.size + 1 ≠ b1 := by omega
  have dc : w.heap.size + 1 + 1 ≠ b1 := by omega
  have hge : w.heap.size ≤ b1 := Nat.le_trans hb0.size lb1
  replace KA := Lib.hid (KA.out.of hb)
  replace KB := Lib.hid (KB.out.of hb)
  replace KC := Lib.hid (KC.out.of hb)
  replace hb0 := hb0.trans (hb.mono hb0.size)
  have V3 := Lib.hid v3
  clear hb nb1 v3 ca cb cc cp la lb lc lp KP lb1
  go_wp2_with fail
  refine name_world ?_
  intro V hV
  have k3 : Var V b1 s2 := by rw [hV]; exact Var.put4 V3.out s2
  have ka : PVar V w.heap.size ax ay := by rw [hV]; exact KA.out.set4 da _ _ _ _
  have kb : PVar V (w.heap.size + 1) bx b_y := by rw [hV]; exact KB.out.set4 db _ _ _ _
  have kc : PVar V (w.heap.size + 1 + 1) cx cy := by rw [hV]; exact KC.out.set4 dc _ _ _ _
  have hbV : Below w.heap.size w V := by rw [hV]; exact below_set4 hb0 hge (.int .u64 (wd0 s2)) (.int .u64 (wd1 s2)) (.int .u64 (wd2 s2)) (.int .u64 (wd3 s2))
  clear hV hb0 KA KB KC V3 c3 f3' n3 da db dc
  have ca := PVar.c ka
  have cb := PVar.c kb
  have cc := PVar.c kc
  have c3 := Var.c k3
  have la := ka.lt
  have lb := kb.lt
  have lc := kc.lt
  have l3 := k3.lt
  clear ka kb kc k3
  refine wp_region_up V.heap.size 5 [(true, 0), (true, 2), (true, 3), (true, 4), (false, 1)] (by kernel_rfl) (by kernel_rfl) (fun _ _ d _ _ h => by cases d <;> exact h) ?_
  have hb : Below V.heap.size V V.drew := (Below.refl _ _).drew
  iterate 4
    refine wpS_takeL rfl rfl ?_
    go_big_quiet_step (rfl)
    refine wpQuiet_nil ?_
  refine wpS_doL rfl ?_
  intro K hK
  go_wp2_with ((first | (go_at_call 24; (with_reducible refine (Sign_is s2 z1 HZ1.out _ is2).mono ?_); rintro e w2 ⟨rfl, hn⟩) | (go_at_call 23; (with_reducible refine (turn_is ax ay bx b_y cx cy t0 HT0.out A1 A2 B1 B2 C1 C2 _).mono ?_); rintro e w2 ⟨rfl, hn⟩) | (go_at_call 24; (with_reducible refine (Sign_is t0 z2 HZ2.out _ it0).mono ?_); rintro e w2 ⟨rfl, hn⟩)))
  replace hb := hb.trans (hn.mono hb.size)
  refine hK.out _ _ (up_iff.2 hb) ?_
  clear hK K
  clear hn
  refine wpS_nil ?_
  simp only [List.drop_succ_cons, List.drop_zero]
  replace hb0 := hbV.trans (hb.mono hbV.size)
  clear hb hbV ca cb cc c3 la lb lc l3
  go_wp2_with fail
  refine (turn_is ax ay bx b_y cx cy t0 HT0.out A1 A2 B1 B2 C1 C2 _).mono ?_
  rintro e u2 ⟨rfl, hn⟩
  replace hb0 := hb0.trans (hn.mono hb0.size)
  clear hn
  go_wp2_with fail
  refine (Sign_is t0 z2 HZ2.out _ it0).mono ?_
  rintro e u3 ⟨rfl, hn⟩
  replace hb0 := hb0.trans (hn.mono hb0.size)
  clear hn
  go_wp2
  go_ret
  exact ⟨by rw [HZ.out]; rfl, hb0⟩

set_option maxRecDepth 100000 in
set_option maxHeartbeats 1000000 in
theorem Circle_no (ax ay bx b_y cx cy px py : Int) (hg : rp4 ax ay bx b_y cx cy px py = false) (w : World) :
    Calls Try.prog 12 #[pI ax ay, pI bx b_y, pI cx cy, pI px py] w fun e w' => e = .returned (.int .i64 0) ∧ Below w.heap.size w w' := by
  have HG := Lib.hid hg
  clear hg
  go_enter Try.func12, Try.ntmps12
  go_wp2_with fail
  refine calls_w ?_
  intro W hW
  have kl : Blk W (w.heap.size + 1 + 1 + 1 + 1) #[.int .i64 ax, .int .i64 ay, .int .i64 bx, .int .i64 b_y, .int .i64 cx, .int .i64 cy, .int .i64 px, .int .i64 py] 25 := by rw [hW]; exact Blk.newAt _ _ (by simp) _ _
  have hb0 : Below w.heap.size w W := by rw [hW]; exact ((below_a3 _ _ _ _).alloc (by simp; omega) _).alloc (by simp; omega) _
  clear hW
  refine (right4_is ax ay bx b_y cx cy px py false HG.out _ _ _ kl).mono ?_
  rintro e u1 ⟨rfl, hn⟩
  replace hb0 := hb0.trans (hn.mono hb0.size)
  clear hn kl
  go_wp2
  go_ret
  exact ⟨rfl, hb0⟩

theorem sign_cases (n : Int) : n.sign = -1 ∨ n.sign = 0 ∨ n.sign = 1 := by
  rcases Int.lt_trichotomy n 0 with h | h | h
  · exact .inl (Int.sign_eq_neg_one_of_neg h)
  · subst h; exact .inr (.inl rfl)
  · exact .inr (.inr (Int.sign_eq_one_of_pos h))
theorem wrap_signs (m n : Int) : wrap64 (m.sign * n.sign) = m.sign * n.sign := by
  rcases sign_cases m with h | h | h <;> rcases sign_cases n with g | g | g <;> rw [h, g] <;> unfold wrap64 <;> omega
theorem Circle_any (ax ay bx b_y cx cy px py : Int) (w : World) :
    Calls Try.prog 12 #[pI ax ay, pI bx b_y, pI cx cy, pI px py] w fun e w' => e = .returned (.int .i64 (crc ax ay bx b_y cx cy px py)) ∧ Below w.heap.size w w' := by
  unfold crc
  obtain ⟨g, hg⟩ : ∃ g, rp4 ax ay bx b_y cx cy px py = g := ⟨_, rfl⟩
  rw [hg]
  cases g
  · exact Circle_no _ _ _ _ _ _ _ _ hg w
  · obtain ⟨h1, h2, h3, h4, h5, h6, h7, h8⟩ := rp4_co hg
    have a1 := frr_bd h1 h2 h7 h8
    have a2 := frr_bd h3 h4 h7 h8
    have a3 := frr_bd h5 h6 h7 h8
    have c0 := trn_bd h1 h2 h3 h4 h5 h6
    have c1 := trn_bd h7 h8 h3 h4 h5 h6
    have c2 := trn_bd h7 h8 h5 h6 h1 h2
    have c3 := trn_bd h7 h8 h1 h2 h3 h4
    have m1 := mul_bd (by decide) a1 c1
    have m2 := mul_bd (by decide) a2 c2
    have m3 := mul_bd (by decide) a3 c3
    refine Circle_go ax ay bx b_y cx cy px py _ _ _ _ _ _ _ _ _ _ _ _ _ _ _ h1 h2 h3 h4 h5 h6 h7 h8 hg rfl rfl rfl rfl rfl rfl rfl rfl rfl rfl rfl rfl rfl rfl (wrap_signs _ _) ?_ ?_ ?_ ?_ ?_ ?_ ?_ ?_ ?_ ?_ ?_ ?_ w
    · unfold InI b255; omega
    · unfold InI b255; omega
    · unfold InI b255; omega
    · unfold InI b255; omega
    · unfold InI b255; omega
    · unfold InI b255; omega
    · unfold InI b255; omega
    · generalize frr ax ay px py * trn px py bx b_y cx cy = p at *; unfold InI b255; omega
    · generalize frr bx b_y px py * trn px py cx cy ax ay = p at *; unfold InI b255; omega
    · generalize frr cx cy px py * trn px py ax ay bx b_y = p at *; unfold InI b255; omega
    · generalize frr ax ay px py * trn px py bx b_y cx cy = p at *
      generalize frr bx b_y px py * trn px py cx cy ax ay = q at *
      unfold InI b255; omega
    · generalize frr ax ay px py * trn px py bx b_y cx cy = p at *
      generalize frr bx b_y px py * trn px py cx cy ax ay = q at *
      generalize frr cx cy px py * trn px py ax ay bx b_y = r at *
      unfold InI b255; omega
end Go.Proofs.Ytdcihglpfchcmaa
namespace Go.Proofs.Ytdcihglpfchcmaa
open Go.RowKit

/-- the first of two that is not 0 -/
def or2 (a b : Int) : Int := bif a == 0 then b else a
set_option maxRecDepth 100000 in
set_option maxHeartbeats 1000000 in
theorem Or2_any (a b : Int) (bl : Nat) (w : World) (c0 : w.cell? ⟨bl, 0, none⟩ = some (.int .i64 a)) (c1 : w.cell? ⟨bl, 1, none⟩ = some (.int .i64 b)) :
    Calls Try.prog 29 #[.slice (some ⟨bl, 0, none⟩) 2 2] w fun e w' => e = .returned (.int .i64 (or2 a b)) ∧ Below w.heap.size w w' := by
  obtain ⟨t, ht⟩ : ∃ t, or2 a b = t := ⟨_, rfl⟩
  rw [ht]
  unfold or2 at ht
  by_cases h0 : a = 0
  · subst h0
    have h1 : b = t := ht
    subst h1
    by_cases h2 : b = 0
    · subst h2
      go_enter Try.func29, Try.ntmps29
      go_wp2
      refine wp_loop_rounds 3 ?_
      iterate 3
        rw [rounds_succ]
        go_wp2
      go_ret
      exact ⟨rfl, Below.refl _ _⟩
    · go_enter Try.func29, Try.ntmps29
      go_wp2
      refine wp_loop_rounds 3 ?_
      iterate 2
        rw [rounds_succ]
        go_wp2
      go_ret
      exact ⟨rfl, Below.refl _ _⟩
  · have h3 : (a == 0) = false := by simpa using h0
    have h1 : a = t := by rw [h3] at ht; exact ht
    clear h3 ht
    subst h1
    go_enter Try.func29, Try.ntmps29
    go_wp2
    refine wp_loop_rounds 3 ?_
    rw [rounds_succ]
    go_wp2
    go_ret
    exact ⟨rfl, Below.refl _ _⟩
end Go.Proofs.Ytdcihglpfchcmaa
namespace Go.Proofs.Ytdcihglpfchcmaa
open Go.RowKit

set_option maxRecDepth 100000 in
set_option maxHeartbeats 1000000 in
theorem pref_any (x y : Int) (w : World) : Calls Try.prog 6 #[pI x y] w fun e w' => e = .returned (pI x y) ∧ Below w.heap.size w w' := by
  go_enter Try.func6, Try.ntmps6
  go_wp2
  simp [bodyPost, results, Try.results6, go_sem]
  exact below_a2 _ _ _

set_option maxRecDepth 100000 in
set_option maxHeartbeats 1000000 in
theorem rRight_any (x y : Int) (w : World) : Calls Try.prog 5 #[pI x y] w fun e w' => e = .returned (.bool (rp x y)) ∧ Below w.heap.size w w' := by
  obtain ⟨t, ht⟩ : ∃ t, rp x y = t := ⟨_, rfl⟩
  rw [ht]
  have HT := Lib.hid ht
  clear ht
  by_cases h1 : -2199023255552 ≤ x <;> by_cases h2 : x ≤ 2199023255552 <;> by_cases h3 : -2199023255552 ≤ y <;> by_cases h4 : y ≤ 2199023255552
  all_goals first | (exfalso; omega) | skip
  all_goals
    go_enter Try.func5, Try.ntmps5
    go_wp2
    go_ret
    refine ⟨congrArg (fun t => Ending.returned (.bool t)) ?_, below_a1 _ _⟩
    rw [← HT.out]; unfold rp inC; rw [Bool.eq_iff_iff]; simp; omega

/-- does one come ahead of another one? -/
def ahd (ax ay bx b_y : Int) : Bool := decide (ax < bx) || decide (ax = bx) && decide (ay < b_y)
set_option maxRecDepth 100000 in
set_option maxHeartbeats 1000000 in
theorem Ahead_any (ax ay bx b_y : Int) (w : World) : Calls Try.prog 9 #[pI ax ay, pI bx b_y] w fun e w' => e = .returned (.bool (ahd ax ay bx b_y)) ∧ Below w.heap.size w w' := by
  obtain ⟨t, ht⟩ : ∃ t, ahd ax ay bx b_y = t := ⟨_, rfl⟩
  rw [ht]
  have HT := Lib.hid ht
  clear ht
  by_cases h1 : ax < bx <;> by_cases h2 : ax = bx <;> by_cases h3 : ay < b_y
  all_goals first | (exfalso; omega) | skip
  all_goals
    go_enter Try.func9, Try.ntmps9
    go_wp2
    go_ret
    refine ⟨congrArg (fun t => Ending.returned (.bool t)) ?_, below_a2 _ _ _⟩
    rw [← HT.out]; unfold ahd; rw [Bool.eq_iff_iff]; simp; omega
end Go.Proofs.Ytdcihglpfchcmaa
namespace Go.Proofs.Ytdcihglpfchcmaa
open Go.RowKit

/-- which of two comes first -/
def cmpP (ax ay bx b_y : Int) : Int := or2 (cmpI ax bx) (cmpI ay b_y)
set_option maxRecDepth 100000 in
set_option maxHeartbeats 1000000 in
theorem PtCmp_any (ax ay bx b_y : Int) (w : World) :
    Calls Try.prog 14 #[pI ax ay, pI bx b_y] w fun e w' => e = .returned (.int .i64 (cmpP ax ay bx b_y)) ∧ Below w.heap.size w w' := by
  unfold cmpP
  obtain ⟨x, hx⟩ : ∃ x, cmpI ax bx = x := ⟨_, rfl⟩
  obtain ⟨y, hy⟩ : ∃ y, cmpI ay b_y = y := ⟨_, rfl⟩
  rw [hx, hy]
  have HX := Lib.hid hx
  have HY := Lib.hid hy
  clear hx hy
  go_enter Try.func14, Try.ntmps14
  go_wp2_with fail
  refine name_world ?_
  intro W hW
  have ka : PVar W w.heap.size ax ay := by rw [hW]; exact (Blk.new w _ _).alloc _
  have kb : PVar W (w.heap.size + 1) bx b_y := by rw [hW]; exact Blk.new1 w _ _ _
  have hb0 : Below w.heap.size w W := by rw [hW]; exact below_a2 _ _ _
  clear hW
  have ca := PVar.c ka
  have cb := PVar.c kb
  have la := ka.lt
  have lb := kb.lt
  clear ka kb
  refine wp_region_up W.heap.size 9 [(true, 0), (true, 1), (true, 2), (true, 3), (true, 5), (true, 6), (true, 7), (true, 8), (false, 4)] (by kernel_rfl) (by kernel_rfl) (fun _ _ d _ _ h => by cases d <;> exact h) ?_
  have hb : Below W.heap.size W W.drew := (Below.refl _ _).drew
  iterate 8
    refine wpS_takeL rfl rfl ?_
    go_big_quiet_step (rfl)
    refine wpQuiet_nil ?_
  refine wpS_doL rfl ?_
  intro K hK
  go_wp2_with ((first | (go_at_call 30; (with_reducible refine (Compare_any ax bx _).mono ?_); rintro e w2 ⟨rfl, hn⟩; rw [HX.out]) | (go_at_call 30; (with_reducible refine (Compare_any ay b_y _).mono ?_); rintro e w2 ⟨rfl, hn⟩; rw [HY.out])))
  replace hb := hb.trans (hn.mono hb.size)
  refine hK.out _ _ (up_iff.2 hb) ?_
  clear hK K
  clear hn
  refine wpS_nil ?_
  simp only [List.drop_succ_cons, List.drop_zero]
  replace hb0 := hb0.trans (hb.mono hb0.size)
  clear hb
  clear ca cb la lb
  go_wp2_with fail
  refine (Compare_any ay b_y _).mono ?_
  rintro e u1 ⟨rfl, hn⟩
  rw [HY.out]
  replace hb0 := hb0.trans (hn.mono hb0.size)
  clear hn
  go_wp2_with fail
  refine calls_w ?_
  intro V hV
  have kl : Blk V u1.heap.size #[.int .i64 x, .int .i64 y] 3 := by rw [hV]; exact Blk.new _ _ _
  have hv : Below u1.heap.size u1 V := by rw [hV]; exact below_a1 _ _
  replace hb0 := hb0.trans (hv.mono hb0.size)
  clear hV hv
  refine (Or2_any x y _ _ (kl.cell 0) (kl.cell 1)).mono ?_
  rintro e u2 ⟨rfl, hn⟩
  replace hb0 := hb0.trans (hn.mono hb0.size)
  clear hn kl
  go_wp2
  go_ret
  exact ⟨rfl, hb0⟩
end Go.Proofs.Ytdcihglpfchcmaa

namespace Go.Proofs.Ytdcihglpfchcmaa
open Go.RowKit

theorem Turn_is (ax ay bx b_y cx cy r : Int) (h : way ax ay bx b_y cx cy = r) (w : World) :
    Calls Try.prog 11 #[pI ax ay, pI bx b_y, pI cx cy] w fun e w' => e = .returned (.int .i64 r) ∧ Below w.heap.size w w' := h ▸ Turn_any ax ay bx b_y cx cy w
theorem Circle_is (ax ay bx b_y cx cy px py r : Int) (h : crc ax ay bx b_y cx cy px py = r) (w : World) :
    Calls Try.prog 12 #[pI ax ay, pI bx b_y, pI cx cy, pI px py] w fun e w' => e = .returned (.int .i64 r) ∧ Below w.heap.size w w' := h ▸ Circle_any ax ay bx b_y cx cy px py w
theorem On_is (ax ay bx b_y cx cy : Int) (r : Bool) (h : onB ax ay bx b_y cx cy = r) (w : World) :
    Calls Try.prog 13 #[pI ax ay, pI bx b_y, pI cx cy] w fun e w' => e = .returned (.bool r) ∧ Below w.heap.size w w' := h ▸ On_any ax ay bx b_y cx cy w
theorem PtCmp_is (ax ay bx b_y r : Int) (h : cmpP ax ay bx b_y = r) (w : World) :
    Calls Try.prog 14 #[pI ax ay, pI bx b_y] w fun e w' => e = .returned (.int .i64 r) ∧ Below w.heap.size w w' := h ▸ PtCmp_any ax ay bx b_y w

set_option maxRecDepth 100000 in
set_option maxHeartbeats 2000000 in
theorem pawake_any (w : World) : Calls Try.prog 4 #[] w fun e w' => e = .returned (.bool true) ∧ Below w.heap.size w w' := by
  have q1 : way 0 0 2 0 0 2 = 1 := by decide
  have q2 : crc 0 0 2 0 0 2 1 1 = 1 := by decide
  have q3 : crc 2 0 0 0 0 2 1 1 = 1 := by decide
  have q4 : crc 0 0 2 0 0 2 3 2 = -1 := by decide
  have q5 : crc 0 0 2 0 0 2 2 2 = 0 := by decide
  have q6 : onB 2 0 0 2 1 1 = true := by decide
  have q7 : cmpP 0 0 2 0 = -1 := by decide
  have Q1 := Lib.hid q1
  have Q2 := Lib.hid q2
  have Q3 := Lib.hid q3
  have Q4 := Lib.hid q4
  have Q5 := Lib.hid q5
  have Q6 := Lib.hid q6
  have Q7 := Lib.hid q7
  clear q1 q2 q3 q4 q5 q6 q7
  go_enter Try.func4, Try.ntmps4
  go_wp2_with fail
  refine calls_w ?_
  intro W hW
  have k1 : PVar W w.heap.size 0 0 := by rw [hW]; exact (Blk.new w _ _).alloc _ |>.alloc _
  have k2 : PVar W (w.heap.size + 1) 2 0 := by rw [hW]; exact (Blk.new1 w _ _ _).alloc _
  have k3 : PVar W (w.heap.size + 1 + 1) 0 2 := by rw [hW]; exact (Blk.new2 w _ _ _ _)
  have hb0 : Below w.heap.size w W := by rw [hW]; exact below_a3 _ _ _ _
  clear hW
  refine (Turn_is 0 0 2 0 0 2 1 Q1.out _).mono ?_
  rintro e u1 ⟨rfl, hn⟩
  replace k1 : PVar u1 _ _ _ := k1.of hn
  replace k2 : PVar u1 _ _ _ := k2.of hn
  replace k3 : PVar u1 _ _ _ := k3.of hn
  replace hb0 := hb0.trans (hn.mono hb0.size)
  clear hn
  have c1 := PVar.c k1
  have c2 := PVar.c k2
  have c3 := PVar.c k3
  go_wp2_with fail
  refine (Circle_is 0 0 2 0 0 2 1 1 1 Q2.out _).mono ?_
  rintro e u2 ⟨rfl, hn⟩
  replace k1 : PVar u2 _ _ _ := k1.of hn
  replace k2 : PVar u2 _ _ _ := k2.of hn
  replace k3 : PVar u2 _ _ _ := k3.of hn
  replace hb0 := hb0.trans (hn.mono hb0.size)
  clear hn c1 c2 c3
  have c1 := PVar.c k1
  have c2 := PVar.c k2
  have c3 := PVar.c k3
  go_wp2_with fail
  refine (Circle_is 2 0 0 0 0 2 1 1 1 Q3.out _).mono ?_
  rintro e u3 ⟨rfl, hn⟩
  replace k1 : PVar u3 _ _ _ := k1.of hn
  replace k2 : PVar u3 _ _ _ := k2.of hn
  replace k3 : PVar u3 _ _ _ := k3.of hn
  replace hb0 := hb0.trans (hn.mono hb0.size)
  clear hn c1 c2 c3
  have c1 := PVar.c k1
  have c2 := PVar.c k2
  have c3 := PVar.c k3
  go_wp2_with fail
  refine (Circle_is 0 0 2 0 0 2 3 2 (-1) Q4.out _).mono ?_
  rintro e u4 ⟨rfl, hn⟩
  replace k1 : PVar u4 _ _ _ := k1.of hn
  replace k2 : PVar u4 _ _ _ := k2.of hn
  replace k3 : PVar u4 _ _ _ := k3.of hn
  replace hb0 := hb0.trans (hn.mono hb0.size)
  clear hn c1 c2 c3
  have c1 := PVar.c k1
  have c2 := PVar.c k2
  have c3 := PVar.c k3
  go_wp2_with fail
  refine (Circle_is 0 0 2 0 0 2 2 2 0 Q5.out _).mono ?_
  rintro e u5 ⟨rfl, hn⟩
  replace k1 : PVar u5 _ _ _ := k1.of hn
  replace k2 : PVar u5 _ _ _ := k2.of hn
  replace k3 : PVar u5 _ _ _ := k3.of hn
  replace hb0 := hb0.trans (hn.mono hb0.size)
  clear hn c1 c2 c3
  have c1 := PVar.c k1
  have c2 := PVar.c k2
  have c3 := PVar.c k3
  go_wp2_with fail
  refine (On_is 2 0 0 2 1 1 true Q6.out _).mono ?_
  rintro e u6 ⟨rfl, hn⟩
  replace k1 : PVar u6 _ _ _ := k1.of hn
  replace k2 : PVar u6 _ _ _ := k2.of hn
  replace k3 : PVar u6 _ _ _ := k3.of hn
  replace hb0 := hb0.trans (hn.mono hb0.size)
  clear hn c1 c2 c3
  have c1 := PVar.c k1
  have c2 := PVar.c k2
  have c3 := PVar.c k3
  go_wp2_with fail
  refine (PtCmp_is 0 0 2 0 (-1) Q7.out _).mono ?_
  rintro e u7 ⟨rfl, hn⟩
  replace k1 : PVar u7 _ _ _ := k1.of hn
  replace k2 : PVar u7 _ _ _ := k2.of hn
  replace k3 : PVar u7 _ _ _ := k3.of hn
  replace hb0 := hb0.trans (hn.mono hb0.size)
  clear hn c1 c2 c3
  have c1 := PVar.c k1
  have c2 := PVar.c k2
  have c3 := PVar.c k3
  go_wp2
  go_ret
  exact ⟨rfl, hb0⟩
end Go.Proofs.Ytdcihglpfchcmaa
namespace Go.Proofs.Ytdcihglpfchcmaa
open Go.ChangeShapes Go.WideShapes Go.ChangeAt Go.RowKit Go.Joins

theorem own : ownKnob Try.prog.godebug = none := by kernel_rfl
theorem laidOut : laidOutB Try.prog = true := by kernel_rfl

section
variable {H : Type} {enc : TypeId × Value → H} {w : World} {base : Nat} {spare : Nat → Bool} {held : Bool}

end
end Go.Proofs.Ytdcihglpfchcmaa
namespace Go.Proofs.Ytdcihglpfchcmaa
open Go.ChangeShapes Go.WideShapes Go.ChangeAt Go.RowKit Go.Joins
end Go.Proofs.Ytdcihglpfchcmaa
namespace Go.Proofs.Ytdcihglpfchcmaa
open Go.RowKit

theorem ws1 {W : World} {b : Nat} {u : Int} {t : TypeId} (hu : Wd u) (h : Blk W b #[.int .u64 u] t) : Ws W b [u] :=
  ⟨fun i hi => by
    match i, hi with
    | 0, _ => exact h.cell 0, h.lt, fun d hd => by rw [List.mem_singleton.1 hd]; exact hu, by simp⟩

set_option maxRecDepth 100000 in
set_option maxHeartbeats 1000000 in
theorem bigOf_pos (n : Int) (w : World) (h0 : 0 ≤ n) (h1 : n < 9223372036854775808) : Calls Try.prog 37 #[.int .i64 n] w (GivesBig w n 5) := by
  go_enter Try.func37, Try.ntmps37
  go_wp2_with fail
  refine calls_w ?_
  intro W hW
  have k0 : Blk W w.heap.size #[.bool false, .slice none 0 0] 50 := by rw [hW]; exact (Blk.new w _ _).alloc _
  have kl : Blk W (w.heap.size + 1) #[.int .u64 n] 52 := by rw [hW]; exact Blk.new1 w _ _ _
  have hb0 : Below w.heap.size w W := by rw [hW]; exact below_a2 _ _ _
  clear hW
  have T := Words_any (w.heap.size + 1) 1 1 [n] W (ws1 ⟨h0, by omega⟩ kl) rfl
  rw [show uval [n] = n by simp [uval]] at T
  refine T.mono ?_
  clear T
  rintro e u1 ⟨vm, rfl, hbm, hn⟩
  replace k0 := k0.of hn
  replace hb0 := hb0.trans (hn.mono hb0.size)
  have HBG := Lib.hid hbm
  have hvm := hbm.shape
  clear hbm hn kl
  obtain ⟨n5, a5, q5, c5, rfl⟩ := hvm
  have d0 := k0.cell 0
  have d1 := k0.cell 1
  have f0 := k0.free 0
  have f1 := k0.free 1
  simp only [List.getElem?_toArray, List.getElem?_cons_zero, List.getElem?_cons_succ] at d0 d1
  clear k0
  go_wp2
  simp [bodyPost, results, Try.results37, go_sem, d0, d1]
  exact ⟨_, rfl, HBG.out.set2 d0 (.bool n5) (.slice a5 q5 c5), set2_below hb0 (Nat.le_refl _) _ _⟩

set_option maxRecDepth 100000 in
set_option maxHeartbeats 1000000 in
theorem bigOf_neg (n : Int) (w : World) (h0 : n < 0) (h1 : -9223372036854775808 ≤ n) : Calls Try.prog 37 #[.int .i64 n] w (GivesBig w n 5) := by
  have hn0 : ¬ 0 ≤ n := by omega
  go_enter Try.func37, Try.ntmps37
  go_wp2_with fail
  refine calls_w ?_
  intro W hW
  have k0 : Blk W w.heap.size #[.bool false, .slice none 0 0] 50 := by rw [hW]; exact (Blk.new w _ _).alloc _
  have kl : Blk W (w.heap.size + 1) #[.int .u64 (-(n + 1) + 1)] 52 := by rw [hW]; exact Blk.new1 w _ _ _
  have hb0 : Below w.heap.size w W := by rw [hW]; exact below_a2 _ _ _
  clear hW
  have T := Words_any (w.heap.size + 1) 1 1 [-(n + 1) + 1] W (ws1 ⟨by omega, by omega⟩ kl) rfl
  rw [show uval [-(n + 1) + 1] = -n by simp [uval]; omega] at T
  refine T.mono ?_
  clear T
  rintro e u1 ⟨vm, rfl, hbm, hn⟩
  replace k0 := k0.of hn
  replace hb0 := hb0.trans (hn.mono hb0.size)
  have HB1 := Lib.hid hbm
  have hvm := hbm.shape
  clear hbm hn kl
  obtain ⟨n4, a4, q4, c4, rfl⟩ := hvm
  go_wp2_with fail
  have T := Minus_any _ _ _ _ HB1.out
  rw [Int.neg_neg] at T
  refine T.mono ?_
  clear T
  rintro e u2 ⟨vm, rfl, hbm, hn⟩
  replace k0 := k0.of hn
  replace hb0 := hb0.trans (hn.mono hb0.size)
  have HBG := Lib.hid hbm
  have hvm := hbm.shape
  clear hbm hn HB1
  obtain ⟨n5, a5, q5, c5, rfl⟩ := hvm
  have d0 := k0.cell 0
  have d1 := k0.cell 1
  have f0 := k0.free 0
  have f1 := k0.free 1
  simp only [List.getElem?_toArray, List.getElem?_cons_zero, List.getElem?_cons_succ] at d0 d1
  clear k0
  go_wp2
  simp [bodyPost, results, Try.results37, go_sem, d0, d1]
  exact ⟨_, rfl, HBG.out.set2 d0 (.bool n5) (.slice a5 q5 c5), set2_below hb0 (Nat.le_refl _) _ _⟩
theorem bigOf_any (n : Int) (w : World) (h : In64 n) : Calls Try.prog 37 #[.int .i64 n] w (GivesBig w n 5) := by
  by_cases h0 : 0 ≤ n
  · exact bigOf_pos n w h0 h.2
  · exact bigOf_neg n w (by omega) h.1
end Go.Proofs.Ytdcihglpfchcmaa
namespace Go.Proofs.Ytdcihglpfchcmaa
open Go.RowKit

theorem allocBg : AllocRuns Try.prog 50 #[.bool false, .slice none 0 0] := fun w => by kernel_rfl
theorem bigOfD_any (a b d : Int) (h : a - b = d) (g : In64 d) (w : World) : Calls Try.prog 37 #[.int .i64 (wrap64 (a - b))] w (GivesBig w d 5) := by
  subst h
  rw [show wrap64 (a - b) = a - b by unfold wrap64; unfold In64 at g; omega]
  exact bigOf_any _ w g

set_option maxRecDepth 100000 in
set_option maxHeartbeats 2000000 in
theorem rTurn_go (ax ay bx b_y cx cy d1 d2 d3 d4 p q r : Int) (h1 : bx - ax = d1) (h2 : cy - ay = d2) (h3 : b_y - ay = d3) (h4 : cx - ax = d4) (g1 : In64 d1) (g2 : In64 d2) (g3 : In64 d3) (g4 : In64 d4) (hp : d1 * d2 = p) (hq : d3 * d4 = q) (hr : p - q = r) (w : World) :
    Calls Try.prog 22 #[pI ax ay, pI bx b_y, pI cx cy] w (GivesBig w r 11) := by
  have H1 := Lib.hid h1
  have H2 := Lib.hid h2
  have H3 := Lib.hid h3
  have H4 := Lib.hid h4
  have H5 := Lib.hid hp
  have H6 := Lib.hid hq
  have H7 := Lib.hid hr
  clear h1 h2 h3 h4 hp hq hr
  go_enter Try.func22, Try.ntmps22
  go_wp2_with fail
  refine name_world ?_
  intro W hW
  have ka : Blk W w.heap.size (pC ax ay) 27 := by rw [hW]; exact (Blk.new w _ _).alloc _ |>.alloc _ |>.alloc _
  have kb : Blk W (w.heap.size + 1) (pC bx b_y) 27 := by rw [hW]; exact (Blk.new1 w _ _ _).alloc _ |>.alloc _
  have kc : Blk W (w.heap.size + 1 + 1) (pC cx cy) 27 := by rw [hW]; exact (Blk.new2 w _ _ _ _).alloc _
  have kz : Blk W (w.heap.size + 1 + 1 + 1) #[.bool false, .slice none 0 0] 50 := by rw [hW]; exact Blk.new3 w _ _ _ _ _
  have hb0 : Below w.heap.size w W := by rw [hW]; exact (below_a3 _ _ _ _).alloc (by simp; omega) _
  clear hW
  have ca0 := ka.cell 0
  have ca1 := ka.cell 1
  have cb0 := kb.cell 0
  have cb1 := kb.cell 1
  have cc0 := kc.cell 0
  have cc1 := kc.cell 1
  simp only [List.getElem?_toArray, List.getElem?_cons_zero, List.getElem?_cons_succ] at ca0 ca1 cb0 cb1 cc0 cc1
  have la := ka.lt
  have lb := kb.lt
  have lc := kc.lt
  have KA := Lib.hid ka
  have KB := Lib.hid kb
  have KC := Lib.hid kc
  have KZ := Lib.hid kz
  clear ka kb kc kz
  refine wp_region_float1 14 13 [(true, 0), (true, 1), (true, 2), (true, 3), (true, 4), (true, 6), (true, 7), (true, 8), (true, 9), (true, 10), (false, 5), (false, 11), (false, 12)] (by kernel_rfl) (by kernel_rfl) (fun _ _ d _ _ => by cases d <;> exact Iff.rfl) rfl rfl rfl allocBg ?_
  have hb : Below W.heap.size W W.drew := (Below.refl _ _).drew
  iterate 10
    refine wpF_take rfl rfl ?_
    go_big_quiet_step (rfl)
    refine wpQuiet_nil ?_
  refine wpF_do rfl ?_
  intro w1 hg K hK
  replace hb := hb.trans (hg.mono hb.size)
  try replace HM := Lib.hid (HM.out.of hg) ;; try replace HN := Lib.hid (HN.out.of hg)
  clear hg
  go_wp2_with ((first | (go_at_call 37; (with_reducible refine (bigOfD_any bx ax d1 H1.out g1 _).mono ?_); rintro e w4 ⟨vm, rfl, hbm, hn⟩; have HM := Lib.hid hbm; have hvm := hbm.shape; clear hbm; obtain ⟨n4, a4, q4, e4, rfl⟩ := hvm) | (go_at_call 37; (with_reducible refine (bigOfD_any cy ay d2 H2.out g2 _).mono ?_); rintro e w5 ⟨vm, rfl, hbm, hn⟩; have HN := Lib.hid hbm; have hvm := hbm.shape; replace HM := Lib.hid (HM.out.of hn); clear hbm; obtain ⟨n5, a5, q5, e5, rfl⟩ := hvm) | (go_at_call 36; refine (bigMul_any _ _ d1 d2 5 5 _ HM.out HN.out (by decide)).mono ?_; rintro e w6 ⟨vm, rfl, hbm, hn⟩; rw [H5.out] at hbm; have HP := Lib.hid hbm; have hvm := hbm.shape; clear hbm HM HN; obtain ⟨n6, a6, q6, e6, rfl⟩ := hvm)))
  refine hK.out _ _ hn ?_
  replace hb := hb.trans (hn.mono hb.size)
  clear hK K
  clear hn
  refine wpF_do rfl ?_
  intro w1 hg K hK
  replace hb := hb.trans (hg.mono hb.size)
  try replace HM := Lib.hid (HM.out.of hg) ;; try replace HN := Lib.hid (HN.out.of hg)
  clear hg
  go_wp2_with ((first | (go_at_call 37; (with_reducible refine (bigOfD_any bx ax d1 H1.out g1 _).mono ?_); rintro e w4 ⟨vm, rfl, hbm, hn⟩; have HM := Lib.hid hbm; have hvm := hbm.shape; clear hbm; obtain ⟨n4, a4, q4, e4, rfl⟩ := hvm) | (go_at_call 37; (with_reducible refine (bigOfD_any cy ay d2 H2.out g2 _).mono ?_); rintro e w5 ⟨vm, rfl, hbm, hn⟩; have HN := Lib.hid hbm; have hvm := hbm.shape; replace HM := Lib.hid (HM.out.of hn); clear hbm; obtain ⟨n5, a5, q5, e5, rfl⟩ := hvm) | (go_at_call 36; refine (bigMul_any _ _ d1 d2 5 5 _ HM.out HN.out (by decide)).mono ?_; rintro e w6 ⟨vm, rfl, hbm, hn⟩; rw [H5.out] at hbm; have HP := Lib.hid hbm; have hvm := hbm.shape; clear hbm HM HN; obtain ⟨n6, a6, q6, e6, rfl⟩ := hvm)))
  refine hK.out _ _ hn ?_
  replace hb := hb.trans (hn.mono hb.size)
  clear hK K
  clear hn
  refine wpF_do rfl ?_
  intro w1 hg K hK
  replace hb := hb.trans (hg.mono hb.size)
  try replace HM := Lib.hid (HM.out.of hg) ;; try replace HN := Lib.hid (HN.out.of hg)
  clear hg
  go_wp2_with ((first | (go_at_call 37; (with_reducible refine (bigOfD_any bx ax d1 H1.out g1 _).mono ?_); rintro e w4 ⟨vm, rfl, hbm, hn⟩; have HM := Lib.hid hbm; have hvm := hbm.shape; clear hbm; obtain ⟨n4, a4, q4, e4, rfl⟩ := hvm) | (go_at_call 37; (with_reducible refine (bigOfD_any cy ay d2 H2.out g2 _).mono ?_); rintro e w5 ⟨vm, rfl, hbm, hn⟩; have HN := Lib.hid hbm; have hvm := hbm.shape; replace HM := Lib.hid (HM.out.of hn); clear hbm; obtain ⟨n5, a5, q5, e5, rfl⟩ := hvm) | (go_at_call 36; refine (bigMul_any _ _ d1 d2 5 5 _ HM.out HN.out (by decide)).mono ?_; rintro e w6 ⟨vm, rfl, hbm, hn⟩; rw [H5.out] at hbm; have HP := Lib.hid hbm; have hvm := hbm.shape; clear hbm HM HN; obtain ⟨n6, a6, q6, e6, rfl⟩ := hvm)))
  refine hK.out _ _ hn ?_
  replace hb := hb.trans (hn.mono hb.size)
  clear hK K
  clear hn
  refine wpF_nil ?_
  clear hb
  intro w1 hg hb b1 lb1 nb1
  replace HP := Lib.hid (HP.out.of hg)
  clear hg
  simp only [Act.put, ptrTo, List.setIfInBounds_toArray, List.set_cons_succ, List.set_cons_zero]
  simp only [List.drop_succ_cons, List.drop_zero]
  have kx : Blk w1 b1 #[.bool false, .slice none 0 0] 50 := nb1
  have v0 := kx.cell 0
  have v1 := kx.cell 1
  have f0 := kx.free 0
  have f1 := kx.free 1
  simp only [List.getElem?_toArray, List.getElem?_cons_zero, List.getElem?_cons_succ] at v0 v1
  have na : w.heap.size ≠ b1 := by omega
  have nb : w.heap.size + 1 ≠ b1 := by omega
  have nc : w.heap.size + 1 + 1 ≠ b1 := by omega
  have nz : w.heap.size + 1 + 1 + 1 ≠ b1 := by have := KZ.out.lt; omega
  have hge : w.heap.size ≤ b1 := Nat.le_trans hb0.size lb1
  have NN := Lib.hid (And.intro na (And.intro nb (And.intro nc nz)))
  have KX := Lib.hid kx
  have V0 := Lib.hid v0
  clear ca0 ca1 cb0 cb1 cc0 cc1 la lb lc nb1 kx na nb nc nz
  go_wp2_with fail
  refine name_world ?_
  intro V hV
  have kx : Blk V b1 #[.bool n6, .slice a6 q6 e6] 50 := by rw [hV]; exact (Blk.put KX.out 0 _).put 1 _
  have ka : Blk V w.heap.size (pC ax ay) 27 := by rw [hV]; exact ((KA.out.of hb).set NN.out.1 _ _ _).set NN.out.1 _ _ _
  have kb : Blk V (w.heap.size + 1) (pC bx b_y) 27 := by rw [hV]; exact ((KB.out.of hb).set NN.out.2.1 _ _ _).set NN.out.2.1 _ _ _
  have kc : Blk V (w.heap.size + 1 + 1) (pC cx cy) 27 := by rw [hV]; exact ((KC.out.of hb).set NN.out.2.2.1 _ _ _).set NN.out.2.2.1 _ _ _
  have kz : Blk V (w.heap.size + 1 + 1 + 1) #[.bool false, .slice none 0 0] 50 := by rw [hV]; exact ((KZ.out.of hb).set NN.out.2.2.2 _ _ _).set NN.out.2.2.2 _ _ _
  have hbV : Below w.heap.size w V := by rw [hV]; exact set2_below (hb0.trans (hb.mono hb0.size)) hge _ _
  replace HP := Lib.hid (show Big V (.agg #[.bool n6, .slice a6 q6 e6]) p 10 by rw [hV]; exact HP.out.set2 V0.out (.bool n6) (.slice a6 q6 e6))
  clear hV hb hb0 KA KB KC KZ KX NN V0 v0 v1 f0 f1 hge lb1
  have ca0 := ka.cell 0
  have ca1 := ka.cell 1
  have cb0 := kb.cell 0
  have cb1 := kb.cell 1
  have cc0 := kc.cell 0
  have cc1 := kc.cell 1
  have cx0 := kx.cell 0
  have cx1 := kx.cell 1
  simp only [List.getElem?_toArray, List.getElem?_cons_zero, List.getElem?_cons_succ] at ca0 ca1 cb0 cb1 cc0 cc1 cx0 cx1
  have la := ka.lt
  have lb := kb.lt
  have lc := kc.lt
  have lx := kx.lt
  have KZ := Lib.hid kz
  clear ka kb kc kz kx
  refine wp_region_up V.heap.size 14 [(true, 0), (true, 1), (true, 2), (true, 3), (true, 4), (true, 5), (true, 7), (true, 8), (true, 9), (true, 10), (true, 11), (false, 6), (false, 12), (false, 13)] (by kernel_rfl) (by kernel_rfl) (fun _ _ d _ _ h => by cases d <;> exact h) ?_
  have hb : Below V.heap.size V V.drew := (Below.refl _ _).drew
  iterate 11
    refine wpS_takeL rfl rfl ?_
    go_big_quiet_step (rfl)
    refine wpQuiet_nil ?_
  refine wpS_doL rfl ?_
  intro K hK
  try replace HM := Lib.hid (HM.out.of hg) ;; try replace HN := Lib.hid (HN.out.of hg)
  go_wp2_with ((first | (go_at_call 37; (with_reducible refine (bigOfD_any b_y ay d3 H3.out g3 _).mono ?_); rintro e w4 ⟨vm, rfl, hbm, hn⟩; have HM := Lib.hid hbm; have hvm := hbm.shape; clear hbm; obtain ⟨n7, a7, q7, e7, rfl⟩ := hvm) | (go_at_call 37; (with_reducible refine (bigOfD_any cx ax d4 H4.out g4 _).mono ?_); rintro e w5 ⟨vm, rfl, hbm, hn⟩; have HN := Lib.hid hbm; have hvm := hbm.shape; replace HM := Lib.hid (HM.out.of hn); clear hbm; obtain ⟨n8, a8, q8, e8, rfl⟩ := hvm) | (go_at_call 36; refine (bigMul_any _ _ d3 d4 5 5 _ HM.out HN.out (by decide)).mono ?_; rintro e w6 ⟨vm, rfl, hbm, hn⟩; rw [H6.out] at hbm; have HQ := Lib.hid hbm; have hvm := hbm.shape; clear hbm HM HN; obtain ⟨n9, a9, q9, e9, rfl⟩ := hvm)))
  replace hb := hb.trans (hn.mono hb.size)
  refine hK.out _ _ (up_iff.2 hb) ?_
  clear hK K
  clear hn
  refine wpS_doL rfl ?_
  intro K hK
  try replace HM := Lib.hid (HM.out.of hg) ;; try replace HN := Lib.hid (HN.out.of hg)
  go_wp2_with ((first | (go_at_call 37; (with_reducible refine (bigOfD_any b_y ay d3 H3.out g3 _).mono ?_); rintro e w4 ⟨vm, rfl, hbm, hn⟩; have HM := Lib.hid hbm; have hvm := hbm.shape; clear hbm; obtain ⟨n7, a7, q7, e7, rfl⟩ := hvm) | (go_at_call 37; (with_reducible refine (bigOfD_any cx ax d4 H4.out g4 _).mono ?_); rintro e w5 ⟨vm, rfl, hbm, hn⟩; have HN := Lib.hid hbm; have hvm := hbm.shape; replace HM := Lib.hid (HM.out.of hn); clear hbm; obtain ⟨n8, a8, q8, e8, rfl⟩ := hvm) | (go_at_call 36; refine (bigMul_any _ _ d3 d4 5 5 _ HM.out HN.out (by decide)).mono ?_; rintro e w6 ⟨vm, rfl, hbm, hn⟩; rw [H6.out] at hbm; have HQ := Lib.hid hbm; have hvm := hbm.shape; clear hbm HM HN; obtain ⟨n9, a9, q9, e9, rfl⟩ := hvm)))
  replace hb := hb.trans (hn.mono hb.size)
  refine hK.out _ _ (up_iff.2 hb) ?_
  clear hK K
  clear hn
  refine wpS_doL rfl ?_
  intro K hK
  try replace HM := Lib.hid (HM.out.of hg) ;; try replace HN := Lib.hid (HN.out.of hg)
  go_wp2_with ((first | (go_at_call 37; (with_reducible refine (bigOfD_any b_y ay d3 H3.out g3 _).mono ?_); rintro e w4 ⟨vm, rfl, hbm, hn⟩; have HM := Lib.hid hbm; have hvm := hbm.shape; clear hbm; obtain ⟨n7, a7, q7, e7, rfl⟩ := hvm) | (go_at_call 37; (with_reducible refine (bigOfD_any cx ax d4 H4.out g4 _).mono ?_); rintro e w5 ⟨vm, rfl, hbm, hn⟩; have HN := Lib.hid hbm; have hvm := hbm.shape; replace HM := Lib.hid (HM.out.of hn); clear hbm; obtain ⟨n8, a8, q8, e8, rfl⟩ := hvm) | (go_at_call 36; refine (bigMul_any _ _ d3 d4 5 5 _ HM.out HN.out (by decide)).mono ?_; rintro e w6 ⟨vm, rfl, hbm, hn⟩; rw [H6.out] at hbm; have HQ := Lib.hid hbm; have hvm := hbm.shape; clear hbm HM HN; obtain ⟨n9, a9, q9, e9, rfl⟩ := hvm)))
  replace hb := hb.trans (hn.mono hb.size)
  refine hK.out _ _ (up_iff.2 hb) ?_
  clear hK K
  clear hn
  refine wpS_nil ?_
  simp only [List.drop_succ_cons, List.drop_zero]
  replace HP := Lib.hid (HP.out.of hb)
  replace KZ := Lib.hid (KZ.out.of hb)
  replace hbV := hbV.trans (hb.mono hbV.size)
  clear hb ca0 ca1 cb0 cb1 cc0 cc1 cx0 cx1 la lb lc lx
  go_wp2_with fail
  refine (bigSub_any _ _ p q 10 _ HP.out HQ.out (by decide)).mono ?_
  rintro e u5 ⟨v5, rfl, hbig, hn⟩
  rw [H7.out] at hbig
  have HBG := Lib.hid hbig
  have hvv := hbig.shape
  clear hbig
  obtain ⟨m5, b5, l5, r5, rfl⟩ := hvv
  have k5 := KZ.out.of hn
  have d0 := k5.cell 0
  have d1' := k5.cell 1
  have f0 := k5.free 0
  have f1 := k5.free 1
  simp only [List.getElem?_toArray, List.getElem?_cons_zero, List.getElem?_cons_succ] at d0 d1'
  have hb5 := hbV.trans (hn.mono hbV.size)
  have hge : w.heap.size ≤ w.heap.size + 1 + 1 + 1 := by omega
  clear hn k5 hbV HP HQ KZ
  go_wp2
  simp [bodyPost, results, Try.results22, go_sem, d0, d1']
  exact ⟨_, rfl, HBG.out.set2 d0 (.bool m5) (.slice b5 l5 r5), set2_below hb5 hge _ _⟩
end Go.Proofs.Ytdcihglpfchcmaa
namespace Go.Proofs.Ytdcihglpfchcmaa
open Go.RowKit

theorem rTurn_any (ax ay bx b_y cx cy : Int) (h1 : Co ax) (h2 : Co ay) (h3 : Co bx) (h4 : Co b_y) (h5 : Co cx) (h6 : Co cy) (w : World) :
    Calls Try.prog 22 #[pI ax ay, pI bx b_y, pI cx cy] w (GivesBig w (trn ax ay bx b_y cx cy) 11) := by
  refine rTurn_go ax ay bx b_y cx cy _ _ _ _ _ _ _ rfl rfl rfl rfl ?_ ?_ ?_ ?_ rfl rfl rfl w
  · have := co_sub h3 h1; unfold In64; omega
  · have := co_sub h6 h2; unfold In64; omega
  · have := co_sub h4 h2; unfold In64; omega
  · have := co_sub h5 h1; unfold In64; omega
/-- a variable that holds a point of the document's answer -/
abbrev QVar (w : World) (b : Nat) (x y : Int) : Prop := Blk w b (pC x y) 27
theorem QVar.c {w : World} {b : Nat} {x y : Int} (h : QVar w b x y) : w.cell? ⟨b, 0, none⟩ = some (.int .i64 x) ∧ w.cell? ⟨b, 1, none⟩ = some (.int .i64 y) := ⟨h.cell 0, h.cell 1⟩
theorem rR_is (x y : Int) (r : Bool) (h : rp x y = r) (w : World) : Calls Try.prog 5 #[pI x y] w fun e w' => e = .returned (.bool r) ∧ Below w.heap.size w w' := h ▸ rRight_any x y w
theorem bSign_is (v : Value) (n : Int) (L : Nat) (s : Int) (hs : n.sign = s) (w : World) (h : Big w v n L) :
    Calls Try.prog 21 #[v] w fun e w' => e = .returned (.int .i64 s) ∧ Below w.heap.size w w' := hs ▸ bigSign_any v n L w h

set_option maxRecDepth 100000 in
set_option maxHeartbeats 1000000 in
theorem Way_any (ax ay bx b_y cx cy : Int) (w : World) :
    Calls Try.prog 8 #[pI ax ay, pI bx b_y, pI cx cy] w fun e w' => e = .returned (.int .i64 (way ax ay bx b_y cx cy)) ∧ Below w.heap.size w w' := by
  unfold way rp3
  obtain ⟨x, hx⟩ : ∃ x, rp ax ay = x := ⟨_, rfl⟩
  obtain ⟨y, hy⟩ : ∃ y, rp bx b_y = y := ⟨_, rfl⟩
  obtain ⟨z, hz⟩ : ∃ z, rp cx cy = z := ⟨_, rfl⟩
  obtain ⟨s, hs⟩ : ∃ s, (trn ax ay bx b_y cx cy).sign = s := ⟨_, rfl⟩
  rw [hx, hy, hz, hs]
  have HX := Lib.hid hx
  have HY := Lib.hid hy
  have HZ := Lib.hid hz
  have HS := Lib.hid hs
  clear hx hy hz hs
  go_enter Try.func8, Try.ntmps8
  go_wp2_with fail
  first | refine calls_w ?_ | refine name_world ?_
  intro W hW
  have ka : QVar W (w.heap.size) ax ay := by rw [hW]; exact (Blk.new w _ _) |>.alloc _ |>.alloc _
  have kb : QVar W (w.heap.size + 1) bx b_y := by rw [hW]; exact (Blk.new1 w _ _ _) |>.alloc _
  have kc : QVar W (w.heap.size + 1 + 1) cx cy := by rw [hW]; exact (Blk.new2 w _ _ _ _)
  have hb0 : Below w.heap.size w W := by rw [hW]; exact below_a3 _ _ _ _
  clear hW
  refine (rR_is ax ay x HX.out _).mono ?_
  rintro e u1 ⟨rfl, hn⟩
  replace ka : QVar u1 _ _ _ := ka.of hn
  replace kb : QVar u1 _ _ _ := kb.of hn
  replace kc : QVar u1 _ _ _ := kc.of hn
  replace hb0 := hb0.trans (hn.mono hb0.size)
  clear hn 
  cases x
  · have ca := QVar.c ka
    have la := ka.lt
    have cb := QVar.c kb
    have lb := kb.lt
    have cc := QVar.c kc
    have lc := kc.lt
    go_wp2
    go_ret
    exact ⟨rfl, hb0⟩
  · have ca := QVar.c ka
    have la := ka.lt
    have cb := QVar.c kb
    have lb := kb.lt
    have cc := QVar.c kc
    have lc := kc.lt
    go_wp2_with fail
    clear ca la cb lb cc lc
    refine (rR_is bx b_y y HY.out _).mono ?_
    rintro e u2 ⟨rfl, hn⟩
    replace ka : QVar u2 _ _ _ := ka.of hn
    replace kb : QVar u2 _ _ _ := kb.of hn
    replace kc : QVar u2 _ _ _ := kc.of hn
    replace hb0 := hb0.trans (hn.mono hb0.size)
    clear hn 
    cases y
    · have ca := QVar.c ka
      have la := ka.lt
      have cb := QVar.c kb
      have lb := kb.lt
      have cc := QVar.c kc
      have lc := kc.lt
      go_wp2
      go_ret
      exact ⟨rfl, hb0⟩
    · have ca := QVar.c ka
      have la := ka.lt
      have cb := QVar.c kb
      have lb := kb.lt
      have cc := QVar.c kc
      have lc := kc.lt
      go_wp2_with fail
      clear ca la cb lb cc lc
      refine (rR_is cx cy z HZ.out _).mono ?_
      rintro e u3 ⟨rfl, hn⟩
      replace ka : QVar u3 _ _ _ := ka.of hn
      replace kb : QVar u3 _ _ _ := kb.of hn
      replace kc : QVar u3 _ _ _ := kc.of hn
      replace hb0 := hb0.trans (hn.mono hb0.size)
      clear hn 
      cases z
      · have ca := QVar.c ka
        have la := ka.lt
        have cb := QVar.c kb
        have lb := kb.lt
        have cc := QVar.c kc
        have lc := kc.lt
        go_wp2
        go_ret
        exact ⟨rfl, hb0⟩
      · have ca := QVar.c ka
        have la := ka.lt
        have cb := QVar.c kb
        have lb := kb.lt
        have cc := QVar.c kc
        have lc := kc.lt
        go_wp2_with fail
        clear ca la cb lb cc lc
        clear ka kb kc
        refine (rTurn_any ax ay bx b_y cx cy (rp_co HX.out).1 (rp_co HX.out).2 (rp_co HY.out).1 (rp_co HY.out).2 (rp_co HZ.out).1 (rp_co HZ.out).2 _).mono ?_
        rintro e u8 ⟨vm, rfl, hbm, hn⟩
        replace hb0 := hb0.trans (hn.mono hb0.size)
        have HM := Lib.hid hbm
        clear hn hbm
        go_wp2_with fail
        refine (bSign_is vm _ 11 s HS.out _ HM.out).mono ?_
        rintro e u9 ⟨rfl, hn⟩
        replace hb0 := hb0.trans (hn.mono hb0.size)
        clear hn
        go_wp2
        go_ret
        exact ⟨rfl, hb0⟩
end Go.Proofs.Ytdcihglpfchcmaa
namespace Go.Proofs.Ytdcihglpfchcmaa
open Go.RowKit

theorem trn_swap (ax ay bx b_y cx cy : Int) : trn bx b_y ax ay cx cy = -trn ax ay bx b_y cx cy := by unfold trn; grind
theorem rp3_swap (ax ay bx b_y cx cy : Int) : rp3 bx b_y ax ay cx cy = rp3 ax ay bx b_y cx cy := by
  unfold rp3; generalize rp ax ay = a; generalize rp bx b_y = b; generalize rp cx cy = c
  cases a <;> cases b <;> cases c <;> rfl
theorem way_swap (ax ay bx b_y cx cy : Int) : way bx b_y ax ay cx cy = -way ax ay bx b_y cx cy := by
  unfold way; rw [rp3_swap, trn_swap, Int.sign_neg]; cases rp3 ax ay bx b_y cx cy <;> rfl
theorem way_cases (ax ay bx b_y cx cy : Int) : way ax ay bx b_y cx cy = -1 ∨ way ax ay bx b_y cx cy = 0 ∨ way ax ay bx b_y cx cy = 1 := by
  unfold way; cases rp3 ax ay bx b_y cx cy
  · exact .inr (.inl rfl)
  · exact sign_cases _
theorem on_lt {ax ay bx b_y px py : Int} (h : trn ax ay bx b_y px py = 0) (hl : ax < bx) :
    (ax < px ∨ ax = px ∧ ay ≤ py) ∧ (px < bx ∨ px = bx ∧ py ≤ b_y) ↔ (min ax bx ≤ px ∧ px ≤ max ax bx) ∧ min ay b_y ≤ py ∧ py ≤ max ay b_y := by
  unfold trn at h
  have hd : 0 < bx - ax := by omega
  constructor
  · intro ⟨h1, h2⟩
    have k0 : 0 ≤ px - ax := by omega
    have k1 : 0 ≤ bx - px := by omega
    refine ⟨by omega, ?_⟩
    by_cases hy : ay ≤ b_y
    · have m1 := Int.mul_nonneg (show 0 ≤ b_y - ay by omega) k0
      have m2 := Int.mul_nonneg (show 0 ≤ b_y - ay by omega) k1
      have a1 : (bx - ax) * 0 ≤ (bx - ax) * (py - ay) := by grind
      have a2 : (bx - ax) * 0 ≤ (bx - ax) * (b_y - py) := by grind
      have b1 := Int.le_of_mul_le_mul_left a1 hd
      have b2 := Int.le_of_mul_le_mul_left a2 hd
      omega
    · have m1 := Int.mul_nonneg (show 0 ≤ ay - b_y by omega) k0
      have m2 := Int.mul_nonneg (show 0 ≤ ay - b_y by omega) k1
      have a1 : (bx - ax) * 0 ≤ (bx - ax) * (ay - py) := by grind
      have a2 : (bx - ax) * 0 ≤ (bx - ax) * (py - b_y) := by grind
      have b1 := Int.le_of_mul_le_mul_left a1 hd
      have b2 := Int.le_of_mul_le_mul_left a2 hd
      omega
  · intro ⟨h1, h2⟩
    refine ⟨?_, ?_⟩
    · by_cases hx : ax < px
      · exact .inl hx
      · have hx : px = ax := by omega
        subst hx
        have : (bx - px) * (py - ay) = 0 := by grind
        rcases Int.mul_eq_zero.1 this with h | h <;> omega
    · by_cases hx : px < bx
      · exact .inl hx
      · have hx : px = bx := by omega
        subst hx
        have : (px - ax) * (py - b_y) = 0 := by grind
        rcases Int.mul_eq_zero.1 this with h | h <;> omega
theorem lex_btw {ax ay bx b_y px py : Int} (h : trn ax ay bx b_y px py = 0) (hl : ahd bx b_y ax ay = false) :
    (!ahd px py ax ay && !ahd bx b_y px py) = (btw ax bx px && btw ay b_y py) := by
  unfold ahd at hl
  have hl' : ¬(bx < ax ∨ bx = ax ∧ b_y < ay) := fun h => by
    have : (decide (bx < ax) || decide (bx = ax) && decide (b_y < ay)) = true := by simpa using h
    rw [hl] at this; cases this
  have h3 : (ax < px ∨ ax = px ∧ ay ≤ py) ∧ (px < bx ∨ px = bx ∧ py ≤ b_y) ↔ (min ax bx ≤ px ∧ px ≤ max ax bx) ∧ min ay b_y ≤ py ∧ py ≤ max ay b_y := by
    by_cases hx : ax < bx
    · exact on_lt h hx
    · obtain rfl : bx = ax := by omega
      omega
  rw [Bool.eq_iff_iff]
  unfold ahd btw
  simp only [Bool.and_eq_true, Bool.not_eq_true', Bool.or_eq_false_iff, Bool.and_eq_false_iff, decide_eq_true_eq, decide_eq_false_iff_not]
  omega
theorem ahd_asym {ax ay bx b_y : Int} (h : ahd ax ay bx b_y = true) : ahd bx b_y ax ay = false := by
  unfold ahd at *
  simp only [Bool.and_eq_true, Bool.or_eq_true, Bool.or_eq_false_iff, Bool.and_eq_false_iff, decide_eq_true_eq, decide_eq_false_iff_not] at *
  omega
theorem btw_comm (a b n : Int) : btw b a n = btw a b n := by unfold btw; rw [Int.min_comm, Int.max_comm]
/-- does one lie on a segment, by the order of points? (h: is b ahead of a) -/
def lexB (h : Bool) (ax ay bx b_y px py : Int) : Bool := bif h then !ahd px py bx b_y && !ahd ax ay px py else !ahd px py ax ay && !ahd bx b_y px py
theorem onB_lex (ax ay bx b_y px py : Int) : onB ax ay bx b_y px py = (rp3 ax ay bx b_y px py && (way ax ay bx b_y px py == 0) && lexB (ahd bx b_y ax ay) ax ay bx b_y px py) := by
  unfold onB lexB way
  cases rp3 ax ay bx b_y px py
  · rfl
  by_cases h0 : trn ax ay bx b_y px py = 0
  · rw [h0]
    cases hl : ahd bx b_y ax ay
    · rw [cond_false, cond_true, lex_btw h0 hl]; simp
    · have h1 : trn bx b_y ax ay px py = 0 := by rw [trn_swap, h0]; rfl
      rw [cond_true, cond_true, lex_btw h1 (ahd_asym hl), btw_comm, btw_comm b_y ay]; simp
  · have : ((trn ax ay bx b_y px py).sign == 0) = false := by simpa using h0
    rw [cond_true, this]; simp
end Go.Proofs.Ytdcihglpfchcmaa
namespace Go.Proofs.Ytdcihglpfchcmaa
open Go.RowKit

theorem rWay_is (ax ay bx b_y cx cy r : Int) (h : way ax ay bx b_y cx cy = r) (w : World) :
    Calls Try.prog 8 #[pI ax ay, pI bx b_y, pI cx cy] w fun e w' => e = .returned (.int .i64 r) ∧ Below w.heap.size w w' := h ▸ Way_any ax ay bx b_y cx cy w
theorem Blk.put2 {w : World} {b : Nat} {p q : Value} {t : TypeId} (h : Blk w b #[p, q] t) (u v : Value) : Blk ((w.setCell ⟨b, 0, none⟩ u).setCell ⟨b, 1, none⟩ v) b #[u, v] t := (h.put 0 u).put 1 v
theorem Blk.sett {w : World} {b b' : Nat} {c : Array Value} {t : TypeId} (h : Blk w b c t) (hne : b ≠ b') (u v : Value) : Blk ((w.setCell ⟨b', 0, none⟩ u).setCell ⟨b', 1, none⟩ v) b c t := (h.set hne _ _ _).set hne _ _ _
theorem rAhead_is (ax ay bx b_y : Int) (r : Bool) (h : ahd ax ay bx b_y = r) (w : World) : Calls Try.prog 9 #[pI ax ay, pI bx b_y] w fun e w' => e = .returned (.bool r) ∧ Below w.heap.size w w' := h ▸ Ahead_any ax ay bx b_y w
set_option maxRecDepth 100000 in
set_option maxHeartbeats 2000000 in
theorem rOn_any (ax ay bx b_y cx cy : Int) (w : World) :
    Calls Try.prog 10 #[pI ax ay, pI bx b_y, pI cx cy] w fun e w' => e = .returned (.bool (onB ax ay bx b_y cx cy)) ∧ Below w.heap.size w w' := by
  rw [onB_lex]
  unfold rp3 lexB
  obtain ⟨x, hx⟩ : ∃ x, rp ax ay = x := ⟨_, rfl⟩
  obtain ⟨y, hy⟩ : ∃ y, rp bx b_y = y := ⟨_, rfl⟩
  obtain ⟨z, hz⟩ : ∃ z, rp cx cy = z := ⟨_, rfl⟩
  obtain ⟨s, hs⟩ : ∃ s : Int, way ax ay bx b_y cx cy = s := ⟨_, rfl⟩
  obtain ⟨t, ht⟩ : ∃ t : Bool, (s == 0) = t := ⟨_, rfl⟩
  obtain ⟨h, hh⟩ : ∃ h, ahd bx b_y ax ay = h := ⟨_, rfl⟩
  obtain ⟨p, hp⟩ : ∃ p, ahd cx cy bx b_y = p := ⟨_, rfl⟩
  obtain ⟨q, hq⟩ : ∃ q, ahd ax ay cx cy = q := ⟨_, rfl⟩
  obtain ⟨m, hm⟩ : ∃ m, ahd cx cy ax ay = m := ⟨_, rfl⟩
  obtain ⟨n, hn⟩ : ∃ n, ahd bx b_y cx cy = n := ⟨_, rfl⟩
  rw [hx, hy, hz, hs, ht, hh, hp, hq, hm, hn]
  have HX := Lib.hid hx
  have HY := Lib.hid hy
  have HZ := Lib.hid hz
  have HS := Lib.hid hs
  have HH := Lib.hid hh
  have HP := Lib.hid hp
  have HQ := Lib.hid hq
  have HM := Lib.hid hm
  have HN := Lib.hid hn
  clear hx hy hz hs hh hp hq hm hn
  go_enter Try.func10, Try.ntmps10
  go_wp2_with fail
  first | refine calls_w ?_ | refine name_world ?_
  intro W hW
  have ka : QVar W (w.heap.size) ax ay := by rw [hW]; exact (Blk.new w _ _) |>.alloc _ |>.alloc _
  have kb : QVar W (w.heap.size + 1) bx b_y := by rw [hW]; exact (Blk.new1 w _ _ _) |>.alloc _
  have kc : QVar W (w.heap.size + 1 + 1) cx cy := by rw [hW]; exact (Blk.new2 w _ _ _ _)
  have hb0 : Below w.heap.size w W := by rw [hW]; exact below_a3 _ _ _ _
  clear hW
  refine (rR_is ax ay x HX.out _).mono ?_
  rintro e u1 ⟨rfl, hn⟩
  replace ka : QVar u1 _ _ _ := ka.of hn
  replace kb : QVar u1 _ _ _ := kb.of hn
  replace kc : QVar u1 _ _ _ := kc.of hn
  replace hb0 := hb0.trans (hn.mono hb0.size)
  clear hn 
  cases x
  · have ca := QVar.c ka
    have la := ka.lt
    have cb := QVar.c kb
    have lb := kb.lt
    have cc := QVar.c kc
    have lc := kc.lt
    go_wp2
    go_ret
    exact ⟨rfl, hb0⟩
  · have ca := QVar.c ka
    have la := ka.lt
    have cb := QVar.c kb
    have lb := kb.lt
    have cc := QVar.c kc
    have lc := kc.lt
    go_wp2_with fail
    clear ca la cb lb cc lc
    refine (rR_is bx b_y y HY.out _).mono ?_
    rintro e u2 ⟨rfl, hn⟩
    replace ka : QVar u2 _ _ _ := ka.of hn
    replace kb : QVar u2 _ _ _ := kb.of hn
    replace kc : QVar u2 _ _ _ := kc.of hn
    replace hb0 := hb0.trans (hn.mono hb0.size)
    clear hn 
    cases y
    · have ca := QVar.c ka
      have la := ka.lt
      have cb := QVar.c kb
      have lb := kb.lt
      have cc := QVar.c kc
      have lc := kc.lt
      go_wp2
      go_ret
      exact ⟨rfl, hb0⟩
    · have ca := QVar.c ka
      have la := ka.lt
      have cb := QVar.c kb
      have lb := kb.lt
      have cc := QVar.c kc
      have lc := kc.lt
      go_wp2_with fail
      clear ca la cb lb cc lc
      refine (rR_is cx cy z HZ.out _).mono ?_
      rintro e u3 ⟨rfl, hn⟩
      replace ka : QVar u3 _ _ _ := ka.of hn
      replace kb : QVar u3 _ _ _ := kb.of hn
      replace kc : QVar u3 _ _ _ := kc.of hn
      replace hb0 := hb0.trans (hn.mono hb0.size)
      clear hn 
      cases z
      · have ca := QVar.c ka
        have la := ka.lt
        have cb := QVar.c kb
        have lb := kb.lt
        have cc := QVar.c kc
        have lc := kc.lt
        go_wp2
        go_ret
        exact ⟨rfl, hb0⟩
      · have ca := QVar.c ka
        have la := ka.lt
        have cb := QVar.c kb
        have lb := kb.lt
        have cc := QVar.c kc
        have lc := kc.lt
        go_wp2_with fail
        clear ca la cb lb cc lc
        refine (rWay_is ax ay bx b_y cx cy s HS.out _).mono ?_
        rintro e u4 ⟨rfl, hn⟩
        replace ka : QVar u4 _ _ _ := ka.of hn
        replace kb : QVar u4 _ _ _ := kb.of hn
        replace kc : QVar u4 _ _ _ := kc.of hn
        replace hb0 := hb0.trans (hn.mono hb0.size)
        clear hn 
        cases t
        · have ca := QVar.c ka
          have la := ka.lt
          have cb := QVar.c kb
          have lb := kb.lt
          have cc := QVar.c kc
          have lc := kc.lt
          go_wp2
          go_ret
          exact ⟨rfl, hb0⟩
        · have ca := QVar.c ka
          have la := ka.lt
          have cb := QVar.c kb
          have lb := kb.lt
          have cc := QVar.c kc
          have lc := kc.lt
          go_wp2_with fail
          clear ca la cb lb cc lc
          have la4 := ka.lt
          have lb4 := kb.lt
          have lc4 := kc.lt
          have HNE := Lib.hid (show (w.heap.size ≠ u4.heap.size ∧ w.heap.size + 1 ≠ u4.heap.size ∧ w.heap.size + 1 + 1 ≠ u4.heap.size ∧ w.heap.size ≠ u4.heap.size + 1 ∧ w.heap.size + 1 ≠ u4.heap.size + 1 ∧ w.heap.size + 1 + 1 ≠ u4.heap.size + 1 ∧ u4.heap.size ≠ u4.heap.size + 1 ∧ w.heap.size < u4.heap.size ∧ w.heap.size + 1 < u4.heap.size ∧ w.heap.size + 1 + 1 < u4.heap.size) from by omega)
          clear la4 lb4 lc4
          refine calls_w ?_
          intro V hV
          have kl : QVar V u4.heap.size ax ay := by rw [hV]; exact (Blk.new _ _ _).alloc _
          have km : QVar V (u4.heap.size + 1) bx b_y := by rw [hV]; exact Blk.new1 _ _ _ _
          have hbV : Below u4.heap.size u4 V := by rw [hV]; exact below_a2 _ _ _
          replace ka : QVar V _ _ _ := ka.of hbV
          replace kb : QVar V _ _ _ := kb.of hbV
          replace kc : QVar V _ _ _ := kc.of hbV
          have hge : w.heap.size ≤ u4.heap.size := hb0.size
          replace hb0 := hb0.trans (hbV.mono hb0.size)
          clear hV hbV
          refine (rAhead_is bx b_y ax ay h HH.out _).mono ?_
          rintro e u5 ⟨rfl, hn⟩
          replace ka : QVar u5 _ _ _ := ka.of hn
          replace kb : QVar u5 _ _ _ := kb.of hn
          replace kc : QVar u5 _ _ _ := kc.of hn
          replace kl : QVar u5 _ _ _ := kl.of hn
          replace km : QVar u5 _ _ _ := km.of hn
          replace hb0 := hb0.trans (hn.mono hb0.size)
          clear hn 
          cases h
          · have ca := QVar.c ka
            have la := ka.lt
            have cb := QVar.c kb
            have lb := kb.lt
            have cc := QVar.c kc
            have lc := kc.lt
            have cl := QVar.c kl
            have ll := kl.lt
            have cm := QVar.c km
            have lm := km.lt
            go_wp2_with fail
            clear ca la cb lb cc lc cl ll cm lm
            refine (rAhead_is cx cy ax ay m HM.out _).mono ?_
            rintro e u6 ⟨rfl, hn⟩
            replace ka : QVar u6 _ _ _ := ka.of hn
            replace kb : QVar u6 _ _ _ := kb.of hn
            replace kc : QVar u6 _ _ _ := kc.of hn
            replace kl : QVar u6 _ _ _ := kl.of hn
            replace km : QVar u6 _ _ _ := km.of hn
            replace hb0 := hb0.trans (hn.mono hb0.size)
            clear hn 
            cases m
            · have ca := QVar.c ka
              have la := ka.lt
              have cb := QVar.c kb
              have lb := kb.lt
              have cc := QVar.c kc
              have lc := kc.lt
              have cl := QVar.c kl
              have ll := kl.lt
              have cm := QVar.c km
              have lm := km.lt
              go_wp2_with fail
              clear ca la cb lb cc lc cl ll cm lm
              refine (rAhead_is bx b_y cx cy n HN.out _).mono ?_
              rintro e u7 ⟨rfl, hn⟩
              replace ka : QVar u7 _ _ _ := ka.of hn
              replace kb : QVar u7 _ _ _ := kb.of hn
              replace kc : QVar u7 _ _ _ := kc.of hn
              replace kl : QVar u7 _ _ _ := kl.of hn
              replace km : QVar u7 _ _ _ := km.of hn
              replace hb0 := hb0.trans (hn.mono hb0.size)
              clear hn 
              cases n
              · have ca := QVar.c ka
                have la := ka.lt
                have cb := QVar.c kb
                have lb := kb.lt
                have cc := QVar.c kc
                have lc := kc.lt
                have cl := QVar.c kl
                have ll := kl.lt
                have cm := QVar.c km
                have lm := km.lt
                go_wp2
                go_ret
                exact ⟨rfl, hb0⟩
              · have ca := QVar.c ka
                have la := ka.lt
                have cb := QVar.c kb
                have lb := kb.lt
                have cc := QVar.c kc
                have lc := kc.lt
                have cl := QVar.c kl
                have ll := kl.lt
                have cm := QVar.c km
                have lm := km.lt
                go_wp2
                go_ret
                exact ⟨rfl, hb0⟩
            · have ca := QVar.c ka
              have la := ka.lt
              have cb := QVar.c kb
              have lb := kb.lt
              have cc := QVar.c kc
              have lc := kc.lt
              have cl := QVar.c kl
              have ll := kl.lt
              have cm := QVar.c km
              have lm := km.lt
              go_wp2
              go_ret
              exact ⟨rfl, hb0⟩
          · have ca := QVar.c ka
            have la := ka.lt
            have cb := QVar.c kb
            have lb := kb.lt
            have cc := QVar.c kc
            have lc := kc.lt
            have cl := QVar.c kl
            have ll := kl.lt
            have cm := QVar.c km
            have lm := km.lt
            have fl0 := kl.free 0
            have fl1 := kl.free 1
            have fm0 := km.free 0
            have fm1 := km.free 1
            obtain ⟨n1, n2, n3, n4, n5, n6, n7, _, _, _⟩ := HNE.out
            go_wp2_with fail
            refine calls_w ?_
            intro V2 hV2
            clear ca la cb lb cc lc cl ll cm lm
            have hb2 : Below u4.heap.size u5 V2 := by rw [hV2]; exact set2_below (set2_below (Below.refl _ _) (Nat.le_refl _) _ _) (by omega) _ _
            replace ka : QVar V2 _ _ _ := ka.below hb2 HNE.out.2.2.2.2.2.2.2.1
            replace kb : QVar V2 _ _ _ := kb.below hb2 HNE.out.2.2.2.2.2.2.2.2.1
            replace kc : QVar V2 _ _ _ := kc.below hb2 HNE.out.2.2.2.2.2.2.2.2.2
            replace km : QVar V2 (u4.heap.size + 1) ax ay := by rw [hV2]; exact (km.sett (Ne.symm n7) _ _).put2 _ _
            replace kl : QVar V2 u4.heap.size bx b_y := by rw [hV2]; exact (kl.put2 _ _).sett n7 _ _
            replace hb0 := hb0.trans (hb2.mono hge)
            clear hb2 hV2 n1 n2 n3 n4 n5 n6 n7 fl0 fl1 fm0 fm1
            refine (rAhead_is cx cy bx b_y p HP.out _).mono ?_
            rintro e u6 ⟨rfl, hn⟩
            replace ka : QVar u6 _ _ _ := ka.of hn
            replace kb : QVar u6 _ _ _ := kb.of hn
            replace kc : QVar u6 _ _ _ := kc.of hn
            replace kl : QVar u6 _ _ _ := kl.of hn
            replace km : QVar u6 _ _ _ := km.of hn
            replace hb0 := hb0.trans (hn.mono hb0.size)
            clear hn 
            cases p
            · have ca := QVar.c ka
              have la := ka.lt
              have cb := QVar.c kb
              have lb := kb.lt
              have cc := QVar.c kc
              have lc := kc.lt
              have cl := QVar.c kl
              have ll := kl.lt
              have cm := QVar.c km
              have lm := km.lt
              go_wp2_with fail
              clear ca la cb lb cc lc cl ll cm lm
              refine (rAhead_is ax ay cx cy q HQ.out _).mono ?_
              rintro e u7 ⟨rfl, hn⟩
              replace ka : QVar u7 _ _ _ := ka.of hn
              replace kb : QVar u7 _ _ _ := kb.of hn
              replace kc : QVar u7 _ _ _ := kc.of hn
              replace kl : QVar u7 _ _ _ := kl.of hn
              replace km : QVar u7 _ _ _ := km.of hn
              replace hb0 := hb0.trans (hn.mono hb0.size)
              clear hn 
              cases q
              · have ca := QVar.c ka
                have la := ka.lt
                have cb := QVar.c kb
                have lb := kb.lt
                have cc := QVar.c kc
                have lc := kc.lt
                have cl := QVar.c kl
                have ll := kl.lt
                have cm := QVar.c km
                have lm := km.lt
                go_wp2
                go_ret
                exact ⟨rfl, hb0⟩
              · have ca := QVar.c ka
                have la := ka.lt
                have cb := QVar.c kb
                have lb := kb.lt
                have cc := QVar.c kc
                have lc := kc.lt
                have cl := QVar.c kl
                have ll := kl.lt
                have cm := QVar.c km
                have lm := km.lt
                go_wp2
                go_ret
                exact ⟨rfl, hb0⟩
            · have ca := QVar.c ka
              have la := ka.lt
              have cb := QVar.c kb
              have lb := kb.lt
              have cc := QVar.c kc
              have lc := kc.lt
              have cl := QVar.c kl
              have ll := kl.lt
              have cm := QVar.c km
              have lm := km.lt
              go_wp2
              go_ret
              exact ⟨rfl, hb0⟩
end Go.Proofs.Ytdcihglpfchcmaa

