/- The walk of package wide's Div, Small. Conditions: none. -/
import Derived.Test.YtcfiemeknocgjaaDoorWide5
import Derived.Test.YtcfiemeknocgjaaDoorRegG
import Derived.Test.YtcfiemeknocgjaaDoorNum3
namespace Go.Proofs.YtcfiemeknocgjaaDoor
open Go.RowKit

set_option maxRecDepth 100000 in
set_option maxHeartbeats 1000000 in
theorem Div_0 (x y : Int) (w : World) (hy : eq4 (wd0 y) (wd1 y) (wd2 y) (wd3 y) 0 0 0 0 = true) :
    Calls Tryd.prog 9 #[wI x, wI y] w fun e w' => e = .returned (.tuple #[wI 0, wI 0, .bool false]) ∧ Below w.heap.size w w' := by
  go_enter Tryd.func9, Tryd.ntmps9
  go_wp2
  simp [bodyPost, results, Tryd.results9, go_sem, wd0_0, wd1_0, wd2_0, wd3_0]
  exact (((Below.refl _ _).alloc (Nat.le_refl _) _).alloc (by simp) _).alloc (by simp; omega) _ |>.alloc (by simp; omega) _


/-- where Div stands -/
structure DvAt (w : World) (x y n m : Int) (b1 b2 : Nat) (wr : World) : Prop where
  v0 : Var wr w.heap.size x
  v1 : Var wr (w.heap.size + 1) y
  v2 : Var wr (w.heap.size + 1 + 1) 0
  v3 : Var wr (w.heap.size + 1 + 1 + 1) 0
  vn : Var wr b1 n
  vm : Var wr b2 m
  hne : b1 ≠ b2
  lb1 : w.heap.size + 1 + 1 + 1 < b1
  lb2 : w.heap.size + 1 + 1 + 1 < b2
  below : Below w.heap.size w wr
theorem DvAt.of {w : World} {x y n m : Int} {b1 b2 : Nat} {wr w' : World} (h : DvAt w x y n m b1 b2 wr) (hn : Below wr.heap.size wr w') : DvAt w x y n m b1 b2 w' :=
  ⟨h.v0.of hn, h.v1.of hn, h.v2.of hn, h.v3.of hn, h.vn.of hn, h.vm.of hn, h.hne, h.lb1, h.lb2, h.below.trans (hn.mono h.below.size)⟩
theorem DvAt.setn {w : World} {x y n m : Int} {b1 b2 : Nat} {wr : World} (h : DvAt w x y n m b1 b2 wr) (z : Int) : DvAt w x y z m b1 b2
    ((((wr.setCell ⟨b1, 0, none⟩ (.int .u64 (wd0 z))).setCell ⟨b1, 1, none⟩ (.int .u64 (wd1 z))).setCell ⟨b1, 2, none⟩ (.int .u64 (wd2 z))).setCell ⟨b1, 3, none⟩ (.int .u64 (wd3 z))) := by
  have hl := h.lb1
  exact ⟨h.v0.set4 (by omega) _ _ _ _, h.v1.set4 (by omega) _ _ _ _, h.v2.set4 (by omega) _ _ _ _, h.v3.set4 (by omega) _ _ _ _, Var.put4 h.vn z, h.vm.set4 h.hne.symm _ _ _ _, h.hne, h.lb1, h.lb2, below_set4 h.below (by omega) _ _ _ _⟩
theorem DvAt.setm {w : World} {x y n m : Int} {b1 b2 : Nat} {wr : World} (h : DvAt w x y n m b1 b2 wr) (z : Int) : DvAt w x y n z b1 b2
    ((((wr.setCell ⟨b2, 0, none⟩ (.int .u64 (wd0 z))).setCell ⟨b2, 1, none⟩ (.int .u64 (wd1 z))).setCell ⟨b2, 2, none⟩ (.int .u64 (wd2 z))).setCell ⟨b2, 3, none⟩ (.int .u64 (wd3 z))) := by
  have hl := h.lb2
  exact ⟨h.v0.set4 (by omega) _ _ _ _, h.v1.set4 (by omega) _ _ _ _, h.v2.set4 (by omega) _ _ _ _, h.v3.set4 (by omega) _ _ _ _, h.vn.set4 h.hne _ _ _ _, Var.put4 h.vm z, h.hne, h.lb1, h.lb2, below_set4 h.below (by omega) _ _ _ _⟩

/-- where Div stands behind the quotient's sign -/
structure DwAt (w : World) (x y q m : Int) (b1 b2 : Nat) (wr : World) : Prop where
  v1 : Var wr (w.heap.size + 1) y
  v2 : Var wr (w.heap.size + 1 + 1) q
  v3 : Var wr (w.heap.size + 1 + 1 + 1) 0
  vm : Var wr b2 m
  lb2 : w.heap.size + 1 + 1 + 1 < b2
  below : Below w.heap.size w wr
theorem DwAt.of {w : World} {x y n m : Int} {b1 b2 : Nat} {wr w' : World} (h : DwAt w x y n m b1 b2 wr) (hn : Below wr.heap.size wr w') : DwAt w x y n m b1 b2 w' :=
  ⟨h.v1.of hn, h.v2.of hn, h.v3.of hn, h.vm.of hn, h.lb2, h.below.trans (hn.mono h.below.size)⟩
theorem DvAt.out2 {w : World} {x y n m : Int} {b1 b2 : Nat} {wr : World} (h : DvAt w x y n m b1 b2 wr) (z : Int) : DwAt w x y z m b1 b2
    ((((wr.setCell ⟨w.heap.size + 1 + 1, 0, none⟩ (.int .u64 (wd0 z))).setCell ⟨w.heap.size + 1 + 1, 1, none⟩ (.int .u64 (wd1 z))).setCell ⟨w.heap.size + 1 + 1, 2, none⟩ (.int .u64 (wd2 z))).setCell ⟨w.heap.size + 1 + 1, 3, none⟩ (.int .u64 (wd3 z))) := by
  have hl := h.lb2
  exact ⟨h.v1.set4 (by omega) _ _ _ _, Var.put4 h.v2 z, h.v3.set4 (by omega) _ _ _ _, h.vm.set4 (by omega) _ _ _ _, h.lb2, below_set4 h.below (by omega) _ _ _ _⟩
theorem DwAt.out3 {w : World} {x y n m : Int} {b1 b2 : Nat} {wr : World} (h : DwAt w x y n m b1 b2 wr) (z : Int) :
    let w' := ((((wr.setCell ⟨w.heap.size + 1 + 1 + 1, 0, none⟩ (.int .u64 (wd0 z))).setCell ⟨w.heap.size + 1 + 1 + 1, 1, none⟩ (.int .u64 (wd1 z))).setCell ⟨w.heap.size + 1 + 1 + 1, 2, none⟩ (.int .u64 (wd2 z))).setCell ⟨w.heap.size + 1 + 1 + 1, 3, none⟩ (.int .u64 (wd3 z)))
    Var w' (w.heap.size + 1 + 1) n ∧ Var w' (w.heap.size + 1 + 1 + 1) z ∧ Below w.heap.size w w' :=
  ⟨h.v2.set4 (by omega) _ _ _ _, Var.put4 h.v3 z, below_set4 h.below (by omega) _ _ _ _⟩

theorem signed_is (s : Int) (b k : Bool) (w : World) (h : sgB s b = k) :
    Calls Tryd.prog 30 #[wI s, .bool b] w fun e w' => e = .returned (.tuple #[wI (bif k then sgV s b else 0), .bool k]) ∧ Below w.heap.size w w' := h ▸ signed_any s b w

set_option maxRecDepth 100000 in
set_option maxHeartbeats 4000000 in
/-- the part of Div behind the division -/
theorem Div_go (x y : Int) (w : World) (u zm sn : Bool) (hy : eq4 (wd0 y) (wd1 y) (wd2 y) (wd3 y) 0 0 0 0 = false) (hx1 : 0 ≤ sz x ∧ sz x < b256) (hy1 : 0 < sz y ∧ sz y < b256)
    (hu : (ng x == ng y) = !u) (hzm : eq4 (wd0 (sz x % sz y)) (wd1 (sz x % sz y)) (wd2 (sz x % sz y)) (wd3 (sz x % sz y)) 0 0 0 0 = zm) (hsn : sgB (dvN x y u zm) u = sn) :
    Calls Tryd.prog 9 #[wI x, wI y] w fun e w' => e = .returned (bif sn then .tuple #[wI (sgV (dvN x y u zm) u),
      wI (bif sgB (dvM x y u zm) (ng y) then sgV (dvM x y u zm) (ng y) else 0), .bool (sgB (dvM x y u zm) (ng y))] else .tuple #[wI 0, wI 0, .bool false]) ∧ Below w.heap.size w w' := by
  have HX := Lib.hid hx1
  have HY := Lib.hid hy1
  have HS := Lib.hid hsn
  clear hx1 hy1 hsn
  go_enter Tryd.func9, Tryd.ntmps9
  go_wp2_with fail
  refine name_world ?_
  intro W hW
  have v0 : Var W w.heap.size x := by rw [hW]; exact ((Blk.new _ _ _).alloc _).alloc _ |>.alloc _
  have v1 : Var W (w.heap.size + 1) y := by rw [hW]; exact ((Blk.new1 _ _ _ _).alloc _).alloc _
  have v2 : Var W (w.heap.size + 1 + 1) 0 := by rw [hW]; exact (Blk.new2 _ _ _ _ _).alloc _
  have v3 : Var W (w.heap.size + 1 + 1 + 1) 0 := by rw [hW]; exact Blk.new3 _ _ _ _ _ _
  have hb0 : Below w.heap.size w W := by rw [hW]; exact (((Below.refl _ _).alloc (Nat.le_refl _) _).alloc (by simp) _).alloc (by simp; omega) _ |>.alloc (by simp; omega) _
  clear hW hy
  have l0 := v0.lt
  have l1 := v1.lt
  have l3 := v3.lt
  have c0 := v0.c
  have c1 := v1.c
  have V0 := Lib.hid v0
  have V1 := Lib.hid v1
  have V2 := Lib.hid v2
  have V3 := Lib.hid v3
  have HU := Lib.hid hu
  have HZ := Lib.hid hzm
  clear v0 v1 v2 v3 hu hzm
  refine wp_region_FG2 10 8 9 [(0, 0), (0, 2), (1, 1), (1, 3), (1, 4), (0, 5), (0, 6), (2, 7)] [(3, 10), (3, 11)] (by kernel_rfl) (by kernel_rfl) (fun _ _ d _ _ => by cases d <;> exact Iff.rfl) rfl rfl rfl allocI rfl rfl rfl allocI rfl ?_
  have hb : Below W.heap.size W W.drew := (Below.refl _ _).drew
  iterate 2
    refine wpFG_take0 rfl rfl ?_
    go_big_quiet_step (rfl)
    refine wpQuiet_nil ?_
  refine wpFG_do rfl ?_
  intro w1 hg K hK
  replace hb := hb.trans (hg.mono hb.size)
  clear hg
  go_wp2_with ((first | (go_at_call 28; refine (size_any _ _).mono ?_; rintro e w2 ⟨rfl, hn⟩) | (go_at_call 29; refine (divided_any _ _ _ HX.out HY.out).mono ?_; rintro e w2 ⟨rfl, hn⟩)))
  refine hK.out _ _ hn ?_
  replace hb := hb.trans (hn.mono hb.size)
  clear hK K
  clear hn
  refine wpFG_do rfl ?_
  intro w1 hg K hK
  replace hb := hb.trans (hg.mono hb.size)
  clear hg
  go_wp2_with ((first | (go_at_call 28; refine (size_any _ _).mono ?_; rintro e w2 ⟨rfl, hn⟩) | (go_at_call 29; refine (divided_any _ _ _ HX.out HY.out).mono ?_; rintro e w2 ⟨rfl, hn⟩)))
  refine hK.out _ _ hn ?_
  replace hb := hb.trans (hn.mono hb.size)
  clear hK K
  clear hn
  refine wpFG_do rfl ?_
  intro w1 hg K hK
  replace hb := hb.trans (hg.mono hb.size)
  clear hg
  go_wp2_with ((first | (go_at_call 28; refine (size_any _ _).mono ?_; rintro e w2 ⟨rfl, hn⟩) | (go_at_call 29; refine (divided_any _ _ _ HX.out HY.out).mono ?_; rintro e w2 ⟨rfl, hn⟩)))
  refine hK.out _ _ hn ?_
  replace hb := hb.trans (hn.mono hb.size)
  clear hK K
  clear hn
  iterate 2
    refine wpFG_take0 rfl rfl ?_
    go_big_quiet_step (rfl)
    refine wpQuiet_nil ?_
  refine wpFG_take2 rfl rfl ?_
  go_big_quiet_step (rfl)
  refine wpQuiet_nil ?_
  refine wpFG_nil ?_
  clear hb
  intro w1 hg hb b1 b2 hne lb1 nb1 lb2 nb2
  clear hg
  simp only [Act.put, ptrTo, List.setIfInBounds_toArray, List.set_cons_succ, List.set_cons_zero]
  have c4 := Var.c (show Var w1 b1 0 from nb1)
  have f4 := Var.f (show Var w1 b1 0 from nb1)
  have c5 := Var.c (show Var w1 b2 0 from nb2)
  have f5 := Var.f (show Var w1 b2 0 from nb2)
  clear c0 c1 l0 l1
  refine wpG_do3 rfl ?_
  intro K hK
  go_wp2_with (fail)
  refine hK.out _ _ ?_
  clear hK K
  refine wpG_do3 rfl ?_
  intro K hK
  go_wp2_with (fail)
  refine hK.out _ _ ?_
  clear hK K
  refine wpG_nil ?_
  refine list_world ?_
  intro W1 hW1
  have hd : DvAt w x y (sz x / sz y) (sz x % sz y) b1 b2 W1 := by
    have h0 : DvAt w x y 0 0 b1 b2 w1 := ⟨V0.out.of hb, V1.out.of hb, V2.out.of hb, V3.out.of hb, nb1, nb2, hne, by omega, by omega, hb0.trans (hb.mono hb0.size)⟩
    rw [hW1]; exact (h0.setn _).setm _
  clear hW1 V0 V1 V2 V3 nb1 nb2 hb hb0 c4 f4 c5 f5 hne lb1 lb2 l3
  cases u
  · have hu : (ng x == ng y) = true := HU.out
    clear HU HZ
    have c0 := Var.c hd.v0
    have c1 := Var.c hd.v1
    have l0 := Blk.lt hd.v0
    have l1 := Blk.lt hd.v1
    have hD := Lib.hid hd
    clear hd
    go_wp2_with fail
    refine wp_region_up W1.heap.size 3 [(true, 0), (true, 2), (false, 1)] (by kernel_rfl) (by kernel_rfl) (fun _ _ d _ _ h => by cases d <;> exact h) ?_
    have hb : Below W1.heap.size W1 W1.drew := (Below.refl _ _).drew
    iterate 2
      refine wpS_takeL rfl rfl ?_
      go_big_quiet_step (rfl)
      refine wpQuiet_nil ?_
    refine wpS_doL rfl ?_
    intro K hK
    go_wp2_with ((go_at_call 33; refine (negative_any _ _).mono ?_; rintro e w2 ⟨rfl, hn⟩))
    replace hb := hb.trans (hn.mono hb.size)
    refine hK.out _ _ (up_iff.2 hb) ?_
    clear hK K
    clear hn
    refine wpS_nil ?_
    simp only [List.drop_succ_cons, List.drop_zero]
    go_wp2_with (go_at_call 33; refine (negative_any _ _).mono ?_; rintro e w2 ⟨rfl, hn⟩; replace hb := hb.trans (hn.mono hb.size); have hd := hD.out.of hb; have cn := Var.c hd.vn; have cm := Var.c hd.vm; clear hn hb c0 c1 l0 l1)
    refine calls_w ?_
    intro W3 hW3
    rw [← hW3] at hd
    clear hW3 cn cm
    cases sn
    · refine (signed_is (sz x / sz y) false false _ HS.out).mono ?_
      rintro e w4 ⟨rfl, hn⟩
      replace hd := hd.of hn
      have c2 := Var.c hd.v2
      have c3 := Var.c hd.v3
      have f2 := Var.f hd.v2
      have f3 := Var.f hd.v3
      have V2 := Lib.hid hd.v2
      have V3 := Lib.hid hd.v3
      have hbl := hd.below
      clear hn hd
      go_wp2
      refine post_world ?_
      intro W8 hW8
      have v2 : Var W8 (w.heap.size + 1 + 1) 0 := by rw [hW8]; exact (Var.put4 (Var.put4 V2.out 0) 0).set4 (by omega) _ _ _ _
      have v3 : Var W8 (w.heap.size + 1 + 1 + 1) 0 := by rw [hW8]; exact Var.put4 ((V3.out.set4 (by omega) _ _ _ _).set4 (by omega) _ _ _ _) 0
      have hb8 : Below w.heap.size w W8 := by
        rw [hW8]
        refine below_set4 (below_set4 (below_set4 hbl ?_ _ _ _ _) ?_ _ _ _ _) ?_ _ _ _ _ <;> omega
      clear hW8 c2 c3 f2 f3 V2 V3 hbl
      have c2 := Var.c v2
      have c3 := Var.c v3
      simp [bodyPost, results, Tryd.results9, go_sem, c2, c3]
      exact hb8
    · refine (signed_is (sz x / sz y) false true _ HS.out).mono ?_
      rintro e w4 ⟨rfl, hn⟩
      replace hd := hd.of hn
      have c2 := Var.c hd.v2
      have f2 := Var.f hd.v2
      clear hn
      go_wp2_with fail
      refine name_world ?_
      intro W5 hW5
      replace hd : DwAt w x y (sgV (sz x / sz y) false) (sz x % sz y) b1 b2 W5 := by rw [hW5]; exact hd.out2 _
      clear hW5 c2 f2
      have c1 := Var.c hd.v1
      have cm := Var.c hd.vm
      have l1 := Blk.lt hd.v1
      have lm := Blk.lt hd.vm
      have hD := Lib.hid hd
      clear hd
      refine wp_region_G 7 [(0, 0), (0, 1), (1, 2), (1, 3), (0, 4), (0, 5), (2, 6), (3, 7), (2, 8)] (by kernel_rfl) (by kernel_rfl) (fun _ _ d _ _ => by cases d <;> exact Iff.rfl) ?_
      have hb : Below W5.heap.size W5 W5.drew := (Below.refl _ _).drew
      iterate 2
        refine wpG_take0 rfl rfl ?_
        go_big_quiet_step (rfl)
        refine wpQuiet_nil ?_
      refine wpG_do1 rfl ?_
      intro K hK
      go_wp2_with ((first | (go_at_call 33; refine (negative_any _ _).mono ?_; rintro e w2 ⟨rfl, hn⟩) | (go_at_call 30; refine (signed_any (sz x % sz y) (ng y) _).mono ?_; rintro e w2 ⟨rfl, hn⟩)))
      replace hb := hb.trans (hn.mono hb.size)
      refine hK.out _ _ (up_iff.2 hb) ?_
      clear hK K
      clear hn
      refine wpG_do1 rfl ?_
      intro K hK
      go_wp2_with ((first | (go_at_call 33; refine (negative_any _ _).mono ?_; rintro e w2 ⟨rfl, hn⟩) | (go_at_call 30; refine (signed_any (sz x % sz y) (ng y) _).mono ?_; rintro e w2 ⟨rfl, hn⟩)))
      replace hb := hb.trans (hn.mono hb.size)
      refine hK.out _ _ (up_iff.2 hb) ?_
      clear hK K
      clear hn
      iterate 2
        refine wpG_take0 rfl rfl ?_
        go_big_quiet_step (rfl)
        refine wpQuiet_nil ?_
      refine wpG_take2 rfl rfl ?_
      go_big_quiet_step (rfl)
      refine wpQuiet_nil ?_
      have hd := hD.out.of hb
      have c3 := Var.c hd.v3
      have f3 := Var.f hd.v3
      clear c1 cm l1 lm
      refine wpG_do3 rfl ?_
      intro K hK
      go_wp2_with (fail)
      refine hK.out _ _ ?_
      clear hK K
      refine wpG_take2 rfl rfl ?_
      go_big_quiet_step (rfl)
      refine wpQuiet_nil ?_
      refine wpG_nil ?_
      go_wp2_with fail
      refine name_world ?_
      intro W6 hW6
      have hd6 := hd.out3 (bif sgB (sz x % sz y) (ng y) then sgV (sz x % sz y) (ng y) else 0)
      rw [← hW6] at hd6
      clear hW6 hd c3 f3 hb hD
      have c2 := Var.c hd6.1
      have c3 := Var.c hd6.2.1
      have f2 := Var.f hd6.1
      have f3 := Var.f hd6.2.1
      have hbl := hd6.2.2
      clear hd6
      go_region
      go_wp2
      simp [bodyPost, results, Tryd.results9, go_sem, c2, c3]
      refine ⟨by (repeat' apply And.intro) <;> rfl, ?_⟩
      refine (below_set4 (below_set4 hbl ?_ _ _ _ _) ?_ _ _ _ _).drew <;> omega
  · have hu : (ng x == ng y) = false := HU.out
    have hzm := HZ.out
    clear HU HZ
    cases zm
    · have c0 := Var.c hd.v0
      have c1 := Var.c hd.v1
      have l0 := Blk.lt hd.v0
      have l1 := Blk.lt hd.v1
      have hD := Lib.hid hd
      clear hd
      go_wp2_with fail
      refine wp_region_up W1.heap.size 3 [(true, 0), (true, 2), (false, 1)] (by kernel_rfl) (by kernel_rfl) (fun _ _ d _ _ h => by cases d <;> exact h) ?_
      have hb : Below W1.heap.size W1 W1.drew := (Below.refl _ _).drew
      iterate 2
        refine wpS_takeL rfl rfl ?_
        go_big_quiet_step (rfl)
        refine wpQuiet_nil ?_
      refine wpS_doL rfl ?_
      intro K hK
      go_wp2_with ((go_at_call 33; refine (negative_any _ _).mono ?_; rintro e w2 ⟨rfl, hn⟩))
      replace hb := hb.trans (hn.mono hb.size)
      refine hK.out _ _ (up_iff.2 hb) ?_
      clear hK K
      clear hn
      refine wpS_nil ?_
      simp only [List.drop_succ_cons, List.drop_zero]
      go_wp2_with (go_at_call 33; refine (negative_any _ _).mono ?_; rintro e w2 ⟨rfl, hn⟩; replace hb := hb.trans (hn.mono hb.size); have hd := hD.out.of hb; have cn := Var.c hd.vn; have cm := Var.c hd.vm; clear hn hb c0 c1 l0 l1)
      refine (plus_any (sz x / sz y) 0 1 _ (by decide) (by decide)).mono ?_
      rintro e w3 ⟨rfl, hn⟩
      rw [Int.add_zero]
      replace hd := hd.of hn
      clear hn cn cm
      have cn := Var.c hd.vn
      have fn := Var.f hd.vn
      go_wp2_with fail
      refine name_world ?_
      intro W4 hW4
      replace hd : DvAt w x y (sz x / sz y + 1) (sz x % sz y) b1 b2 W4 := by rw [hW4]; exact hd.setn _
      clear hW4 cn fn
      have c1 := Var.c hd.v1
      have cm := Var.c hd.vm
      have l1 := Blk.lt hd.v1
      have lm := Blk.lt hd.vm
      have hD := Lib.hid hd
      clear hd
      refine wp_region_up W4.heap.size 3 [(true, 0), (true, 2), (false, 1)] (by kernel_rfl) (by kernel_rfl) (fun _ _ d _ _ h => by cases d <;> exact h) ?_
      have hb : Below W4.heap.size W4 W4.drew := (Below.refl _ _).drew
      iterate 2
        refine wpS_takeL rfl rfl ?_
        go_big_quiet_step (rfl)
        refine wpQuiet_nil ?_
      refine wpS_doL rfl ?_
      intro K hK
      go_wp2_with ((go_at_call 28; refine (size_any _ _).mono ?_; rintro e w2 ⟨rfl, hn⟩))
      replace hb := hb.trans (hn.mono hb.size)
      refine hK.out _ _ (up_iff.2 hb) ?_
      clear hK K
      clear hn
      refine wpS_nil ?_
      simp only [List.drop_succ_cons, List.drop_zero]
      go_wp2_with fail
      refine (turned_any (sz x % sz y) _).mono ?_
      rintro e w5 ⟨rfl, hn⟩
      replace hb := hb.trans (hn.mono hb.size)
      clear hn
      go_wp2_with fail
      refine (plus_any (sz y) (-1 - sz x % sz y) 1 _ (by decide) (by decide)).mono ?_
      rintro e w6 ⟨rfl, hn⟩
      replace hb := hb.trans (hn.mono hb.size)
      clear hn
      have e6 : sz y + (-1 - sz x % sz y) + 1 = sz y - sz x % sz y := by omega
      rw [e6]
      clear e6
      have hd := hD.out.of hb
      clear hD hb c1 cm l1 lm
      have cm := Var.c hd.vm
      have fm := Var.f hd.vm
      have cn := Var.c hd.vn
      have hne := hd.hne
      have hne' := hd.hne.symm
      go_wp2_with fail
      clear hne hne'
      replace hd := hd.setm (sz y - sz x % sz y)
      clear fm
      refine calls_w ?_
      intro W3 hW3
      rw [← hW3] at hd
      clear hW3 cn cm
      cases sn
      · refine (signed_is (sz x / sz y + 1) true false _ HS.out).mono ?_
        rintro e w4 ⟨rfl, hn⟩
        replace hd := hd.of hn
        have c2 := Var.c hd.v2
        have c3 := Var.c hd.v3
        have f2 := Var.f hd.v2
        have f3 := Var.f hd.v3
        have V2 := Lib.hid hd.v2
        have V3 := Lib.hid hd.v3
        have hbl := hd.below
        clear hn hd
        go_wp2
        refine post_world ?_
        intro W8 hW8
        have v2 : Var W8 (w.heap.size + 1 + 1) 0 := by rw [hW8]; exact (Var.put4 (Var.put4 V2.out 0) 0).set4 (by omega) _ _ _ _
        have v3 : Var W8 (w.heap.size + 1 + 1 + 1) 0 := by rw [hW8]; exact Var.put4 ((V3.out.set4 (by omega) _ _ _ _).set4 (by omega) _ _ _ _) 0
        have hb8 : Below w.heap.size w W8 := by
          rw [hW8]
          refine below_set4 (below_set4 (below_set4 hbl ?_ _ _ _ _) ?_ _ _ _ _) ?_ _ _ _ _ <;> omega
        clear hW8 c2 c3 f2 f3 V2 V3 hbl
        have c2 := Var.c v2
        have c3 := Var.c v3
        simp [bodyPost, results, Tryd.results9, go_sem, c2, c3]
        exact hb8
      · refine (signed_is (sz x / sz y + 1) true true _ HS.out).mono ?_
        rintro e w4 ⟨rfl, hn⟩
        replace hd := hd.of hn
        have c2 := Var.c hd.v2
        have f2 := Var.f hd.v2
        clear hn
        go_wp2_with fail
        refine name_world ?_
        intro W5 hW5
        replace hd : DwAt w x y (sgV (sz x / sz y + 1) true) (sz y - sz x % sz y) b1 b2 W5 := by rw [hW5]; exact hd.out2 _
        clear hW5 c2 f2
        have c1 := Var.c hd.v1
        have cm := Var.c hd.vm
        have l1 := Blk.lt hd.v1
        have lm := Blk.lt hd.vm
        have hD := Lib.hid hd
        clear hd
        refine wp_region_G 7 [(0, 0), (0, 1), (1, 2), (1, 3), (0, 4), (0, 5), (2, 6), (3, 7), (2, 8)] (by kernel_rfl) (by kernel_rfl) (fun _ _ d _ _ => by cases d <;> exact Iff.rfl) ?_
        have hb : Below W5.heap.size W5 W5.drew := (Below.refl _ _).drew
        iterate 2
          refine wpG_take0 rfl rfl ?_
          go_big_quiet_step (rfl)
          refine wpQuiet_nil ?_
        refine wpG_do1 rfl ?_
        intro K hK
        go_wp2_with ((first | (go_at_call 33; refine (negative_any _ _).mono ?_; rintro e w2 ⟨rfl, hn⟩) | (go_at_call 30; refine (signed_any (sz y - sz x % sz y) (ng y) _).mono ?_; rintro e w2 ⟨rfl, hn⟩)))
        replace hb := hb.trans (hn.mono hb.size)
        refine hK.out _ _ (up_iff.2 hb) ?_
        clear hK K
        clear hn
        refine wpG_do1 rfl ?_
        intro K hK
        go_wp2_with ((first | (go_at_call 33; refine (negative_any _ _).mono ?_; rintro e w2 ⟨rfl, hn⟩) | (go_at_call 30; refine (signed_any (sz y - sz x % sz y) (ng y) _).mono ?_; rintro e w2 ⟨rfl, hn⟩)))
        replace hb := hb.trans (hn.mono hb.size)
        refine hK.out _ _ (up_iff.2 hb) ?_
        clear hK K
        clear hn
        iterate 2
          refine wpG_take0 rfl rfl ?_
          go_big_quiet_step (rfl)
          refine wpQuiet_nil ?_
        refine wpG_take2 rfl rfl ?_
        go_big_quiet_step (rfl)
        refine wpQuiet_nil ?_
        have hd := hD.out.of hb
        have c3 := Var.c hd.v3
        have f3 := Var.f hd.v3
        clear c1 cm l1 lm
        refine wpG_do3 rfl ?_
        intro K hK
        go_wp2_with (fail)
        refine hK.out _ _ ?_
        clear hK K
        refine wpG_take2 rfl rfl ?_
        go_big_quiet_step (rfl)
        refine wpQuiet_nil ?_
        refine wpG_nil ?_
        go_wp2_with fail
        refine name_world ?_
        intro W6 hW6
        have hd6 := hd.out3 (bif sgB (sz y - sz x % sz y) (ng y) then sgV (sz y - sz x % sz y) (ng y) else 0)
        rw [← hW6] at hd6
        clear hW6 hd c3 f3 hb hD
        have c2 := Var.c hd6.1
        have c3 := Var.c hd6.2.1
        have f2 := Var.f hd6.1
        have f3 := Var.f hd6.2.1
        have hbl := hd6.2.2
        clear hd6
        go_region
        go_wp2
        simp [bodyPost, results, Tryd.results9, go_sem, c2, c3]
        refine ⟨by (repeat' apply And.intro) <;> rfl, ?_⟩
        refine (below_set4 (below_set4 hbl ?_ _ _ _ _) ?_ _ _ _ _).drew <;> omega
    · have c0 := Var.c hd.v0
      have c1 := Var.c hd.v1
      have l0 := Blk.lt hd.v0
      have l1 := Blk.lt hd.v1
      have hD := Lib.hid hd
      clear hd
      go_wp2_with fail
      refine wp_region_up W1.heap.size 3 [(true, 0), (true, 2), (false, 1)] (by kernel_rfl) (by kernel_rfl) (fun _ _ d _ _ h => by cases d <;> exact h) ?_
      have hb : Below W1.heap.size W1 W1.drew := (Below.refl _ _).drew
      iterate 2
        refine wpS_takeL rfl rfl ?_
        go_big_quiet_step (rfl)
        refine wpQuiet_nil ?_
      refine wpS_doL rfl ?_
      intro K hK
      go_wp2_with ((go_at_call 33; refine (negative_any _ _).mono ?_; rintro e w2 ⟨rfl, hn⟩))
      replace hb := hb.trans (hn.mono hb.size)
      refine hK.out _ _ (up_iff.2 hb) ?_
      clear hK K
      clear hn
      refine wpS_nil ?_
      simp only [List.drop_succ_cons, List.drop_zero]
      go_wp2_with (go_at_call 33; refine (negative_any _ _).mono ?_; rintro e w2 ⟨rfl, hn⟩; replace hb := hb.trans (hn.mono hb.size); have hd := hD.out.of hb; have cn := Var.c hd.vn; have cm := Var.c hd.vm; clear hn hb c0 c1 l0 l1)
      refine calls_w ?_
      intro W3 hW3
      rw [← hW3] at hd
      clear hW3 cn cm
      cases sn
      · refine (signed_is (sz x / sz y) true false _ HS.out).mono ?_
        rintro e w4 ⟨rfl, hn⟩
        replace hd := hd.of hn
        have c2 := Var.c hd.v2
        have c3 := Var.c hd.v3
        have f2 := Var.f hd.v2
        have f3 := Var.f hd.v3
        have V2 := Lib.hid hd.v2
        have V3 := Lib.hid hd.v3
        have hbl := hd.below
        clear hn hd
        go_wp2
        refine post_world ?_
        intro W8 hW8
        have v2 : Var W8 (w.heap.size + 1 + 1) 0 := by rw [hW8]; exact (Var.put4 (Var.put4 V2.out 0) 0).set4 (by omega) _ _ _ _
        have v3 : Var W8 (w.heap.size + 1 + 1 + 1) 0 := by rw [hW8]; exact Var.put4 ((V3.out.set4 (by omega) _ _ _ _).set4 (by omega) _ _ _ _) 0
        have hb8 : Below w.heap.size w W8 := by
          rw [hW8]
          refine below_set4 (below_set4 (below_set4 hbl ?_ _ _ _ _) ?_ _ _ _ _) ?_ _ _ _ _ <;> omega
        clear hW8 c2 c3 f2 f3 V2 V3 hbl
        have c2 := Var.c v2
        have c3 := Var.c v3
        simp [bodyPost, results, Tryd.results9, go_sem, c2, c3]
        exact hb8
      · refine (signed_is (sz x / sz y) true true _ HS.out).mono ?_
        rintro e w4 ⟨rfl, hn⟩
        replace hd := hd.of hn
        have c2 := Var.c hd.v2
        have f2 := Var.f hd.v2
        clear hn
        go_wp2_with fail
        refine name_world ?_
        intro W5 hW5
        replace hd : DwAt w x y (sgV (sz x / sz y) true) (sz x % sz y) b1 b2 W5 := by rw [hW5]; exact hd.out2 _
        clear hW5 c2 f2
        have c1 := Var.c hd.v1
        have cm := Var.c hd.vm
        have l1 := Blk.lt hd.v1
        have lm := Blk.lt hd.vm
        have hD := Lib.hid hd
        clear hd
        refine wp_region_G 7 [(0, 0), (0, 1), (1, 2), (1, 3), (0, 4), (0, 5), (2, 6), (3, 7), (2, 8)] (by kernel_rfl) (by kernel_rfl) (fun _ _ d _ _ => by cases d <;> exact Iff.rfl) ?_
        have hb : Below W5.heap.size W5 W5.drew := (Below.refl _ _).drew
        iterate 2
          refine wpG_take0 rfl rfl ?_
          go_big_quiet_step (rfl)
          refine wpQuiet_nil ?_
        refine wpG_do1 rfl ?_
        intro K hK
        go_wp2_with ((first | (go_at_call 33; refine (negative_any _ _).mono ?_; rintro e w2 ⟨rfl, hn⟩) | (go_at_call 30; refine (signed_any (sz x % sz y) (ng y) _).mono ?_; rintro e w2 ⟨rfl, hn⟩)))
        replace hb := hb.trans (hn.mono hb.size)
        refine hK.out _ _ (up_iff.2 hb) ?_
        clear hK K
        clear hn
        refine wpG_do1 rfl ?_
        intro K hK
        go_wp2_with ((first | (go_at_call 33; refine (negative_any _ _).mono ?_; rintro e w2 ⟨rfl, hn⟩) | (go_at_call 30; refine (signed_any (sz x % sz y) (ng y) _).mono ?_; rintro e w2 ⟨rfl, hn⟩)))
        replace hb := hb.trans (hn.mono hb.size)
        refine hK.out _ _ (up_iff.2 hb) ?_
        clear hK K
        clear hn
        iterate 2
          refine wpG_take0 rfl rfl ?_
          go_big_quiet_step (rfl)
          refine wpQuiet_nil ?_
        refine wpG_take2 rfl rfl ?_
        go_big_quiet_step (rfl)
        refine wpQuiet_nil ?_
        have hd := hD.out.of hb
        have c3 := Var.c hd.v3
        have f3 := Var.f hd.v3
        clear c1 cm l1 lm
        refine wpG_do3 rfl ?_
        intro K hK
        go_wp2_with (fail)
        refine hK.out _ _ ?_
        clear hK K
        refine wpG_take2 rfl rfl ?_
        go_big_quiet_step (rfl)
        refine wpQuiet_nil ?_
        refine wpG_nil ?_
        go_wp2_with fail
        refine name_world ?_
        intro W6 hW6
        have hd6 := hd.out3 (bif sgB (sz x % sz y) (ng y) then sgV (sz x % sz y) (ng y) else 0)
        rw [← hW6] at hd6
        clear hW6 hd c3 f3 hb hD
        have c2 := Var.c hd6.1
        have c3 := Var.c hd6.2.1
        have f2 := Var.f hd6.1
        have f3 := Var.f hd6.2.1
        have hbl := hd6.2.2
        clear hd6
        go_region
        go_wp2
        simp [bodyPost, results, Tryd.results9, go_sem, c2, c3]
        refine ⟨by (repeat' apply And.intro) <;> rfl, ?_⟩
        refine (below_set4 (below_set4 hbl ?_ _ _ _ _) ?_ _ _ _ _).drew <;> omega
end Go.Proofs.YtcfiemeknocgjaaDoor
