/- Bs4: several of my texts in one: Wide6, Wide7, Big1, Big2, Big3, Big4. Conditions: as each of them says. -/
import Derived.Test.YtlcbomjdbdgbmaaBs3
import Derived.Test.YtlcbomjdbdgbmaaBs2
import Derived.Test.YtlcbomjdbdgbmaaProg
import Derived.Deep.QuietTactic
import Derived.BigQuiet
import Derived.BigRegion
import Derived.WalkSmall
import Derived.Lib.Hide
/- The walk of package wide's Div, Small. Conditions: none. -/
namespace Go.Proofs.Ytlcbomjdbdgbmaa
open Go.RowKit

set_option maxRecDepth 100000 in
set_option maxHeartbeats 1000000 in
theorem Div_0 (x y : Int) (w : World) (hy : eq4 (wd0 y) (wd1 y) (wd2 y) (wd3 y) 0 0 0 0 = true) :
    Calls Try.prog 109 #[wI x, wI y] w fun e w' => e = .returned (.tuple #[wI 0, wI 0, .bool false]) ∧ Below w.heap.size w w' := by
  go_enter Try.func109, Try.ntmps109
  go_wp2
  simp [bodyPost, results, Try.results109, go_sem, wd0_0, wd1_0, wd2_0, wd3_0]
  exact (((Below.refl _ _).alloc (Nat.le_refl _) _).alloc (by simp) _).alloc (by simp; omega) _ |>.alloc (by simp; omega) _


/-- where Div stands -/
structure DvAt (w : World) (x y n m : Int) (b1 b2 : Nat) (wr : World) : Prop where
  v0 : Var wr w.heap.size x
  v1 : Var wr (w.heap.size + 1) y
  v2 : Var wr (w.heap.size + 1 + 1) 0
  v3 : Var wr (w.heap.size + 1 + 1 + 1) 0
  vn : Var wr b1 n
  vm : Var wr b2 m
  hne : b1 ≠ b2
  lb1 : w.heap.size + 1 + 1 + 1 < b1
  lb2 : w.heap.size + 1 + 1 + 1 < b2
  below : Below w.heap.size w wr
theorem DvAt.of {w : World} {x y n m : Int} {b1 b2 : Nat} {wr w' : World} (h : DvAt w x y n m b1 b2 wr) (hn : Below wr.heap.size wr w') : DvAt w x y n m b1 b2 w' :=
  ⟨h.v0.of hn, h.v1.of hn, h.v2.of hn, h.v3.of hn, h.vn.of hn, h.vm.of hn, h.hne, h.lb1, h.lb2, h.below.trans (hn.mono h.below.size)⟩
theorem DvAt.setn {w : World} {x y n m : Int} {b1 b2 : Nat} {wr : World} (h : DvAt w x y n m b1 b2 wr) (z : Int) : DvAt w x y z m b1 b2
    ((((wr.setCell ⟨b1, 0, none⟩ (.int .u64 (wd0 z))).setCell ⟨b1, 1, none⟩ (.int .u64 (wd1 z))).setCell ⟨b1, 2, none⟩ (.int .u64 (wd2 z))).setCell ⟨b1, 3, none⟩ (.int .u64 (wd3 z))) := by
  have hl := h.lb1
  exact ⟨h.v0.set4 (by omega) _ _ _ _, h.v1.set4 (by omega) _ _ _ _, h.v2.set4 (by omega) _ _ _ _, h.v3.set4 (by omega) _ _ _ _, Var.put4 h.vn z, h.vm.set4 h.hne.symm _ _ _ _, h.hne, h.lb1, h.lb2, below_set4 h.below (by omega) _ _ _ _⟩
theorem DvAt.setm {w : World} {x y n m : Int} {b1 b2 : Nat} {wr : World} (h : DvAt w x y n m b1 b2 wr) (z : Int) : DvAt w x y n z b1 b2
    ((((wr.setCell ⟨b2, 0, none⟩ (.int .u64 (wd0 z))).setCell ⟨b2, 1, none⟩ (.int .u64 (wd1 z))).setCell ⟨b2, 2, none⟩ (.int .u64 (wd2 z))).setCell ⟨b2, 3, none⟩ (.int .u64 (wd3 z))) := by
  have hl := h.lb2
  exact ⟨h.v0.set4 (by omega) _ _ _ _, h.v1.set4 (by omega) _ _ _ _, h.v2.set4 (by omega) _ _ _ _, h.v3.set4 (by omega) _ _ _ _, h.vn.set4 h.hne _ _ _ _, Var.put4 h.vm z, h.hne, h.lb1, h.lb2, below_set4 h.below (by omega) _ _ _ _⟩

/-- where Div stands behind the quotient's sign -/
structure DwAt (w : World) (x y q m : Int) (b1 b2 : Nat) (wr : World) : Prop where
  v1 : Var wr (w.heap.size + 1) y
  v2 : Var wr (w.heap.size + 1 + 1) q
  v3 : Var wr (w.heap.size + 1 + 1 + 1) 0
  vm : Var wr b2 m
  lb2 : w.heap.size + 1 + 1 + 1 < b2
  below : Below w.heap.size w wr
theorem DwAt.of {w : World} {x y n m : Int} {b1 b2 : Nat} {wr w' : World} (h : DwAt w x y n m b1 b2 wr) (hn : Below wr.heap.size wr w') : DwAt w x y n m b1 b2 w' :=
  ⟨h.v1.of hn, h.v2.of hn, h.v3.of hn, h.vm.of hn, h.lb2, h.below.trans (hn.mono h.below.size)⟩
theorem DvAt.out2 {w : World} {x y n m : Int} {b1 b2 : Nat} {wr : World} (h : DvAt w x y n m b1 b2 wr) (z : Int) : DwAt w x y z m b1 b2
    ((((wr.setCell ⟨w.heap.size + 1 + 1, 0, none⟩ (.int .u64 (wd0 z))).setCell ⟨w.heap.size + 1 + 1, 1, none⟩ (.int .u64 (wd1 z))).setCell ⟨w.heap.size + 1 + 1, 2, none⟩ (.int .u64 (wd2 z))).setCell ⟨w.heap.size + 1 + 1, 3, none⟩ (.int .u64 (wd3 z))) := by
  have hl := h.lb2
  exact ⟨h.v1.set4 (by omega) _ _ _ _, Var.put4 h.v2 z, h.v3.set4 (by omega) _ _ _ _, h.vm.set4 (by omega) _ _ _ _, h.lb2, below_set4 h.below (by omega) _ _ _ _⟩
theorem DwAt.out3 {w : World} {x y n m : Int} {b1 b2 : Nat} {wr : World} (h : DwAt w x y n m b1 b2 wr) (z : Int) :
    let w' := ((((wr.setCell ⟨w.heap.size + 1 + 1 + 1, 0, none⟩ (.int .u64 (wd0 z))).setCell ⟨w.heap.size + 1 + 1 + 1, 1, none⟩ (.int .u64 (wd1 z))).setCell ⟨w.heap.size + 1 + 1 + 1, 2, none⟩ (.int .u64 (wd2 z))).setCell ⟨w.heap.size + 1 + 1 + 1, 3, none⟩ (.int .u64 (wd3 z)))
    Var w' (w.heap.size + 1 + 1) n ∧ Var w' (w.heap.size + 1 + 1 + 1) z ∧ Below w.heap.size w w' :=
  ⟨h.v2.set4 (by omega) _ _ _ _, Var.put4 h.v3 z, below_set4 h.below (by omega) _ _ _ _⟩

theorem signed_is (s : Int) (b k : Bool) (w : World) (h : sgB s b = k) :
    Calls Try.prog 139 #[wI s, .bool b] w fun e w' => e = .returned (.tuple #[wI (bif k then sgV s b else 0), .bool k]) ∧ Below w.heap.size w w' := h ▸ signed_any s b w

set_option maxRecDepth 100000 in
set_option maxHeartbeats 4000000 in
/-- the part of Div behind the division -/
theorem Div_go (x y : Int) (w : World) (u zm sn : Bool) (hy : eq4 (wd0 y) (wd1 y) (wd2 y) (wd3 y) 0 0 0 0 = false) (hx1 : 0 ≤ sz x ∧ sz x < b256) (hy1 : 0 < sz y ∧ sz y < b256)
    (hu : (ng x == ng y) = !u) (hzm : eq4 (wd0 (sz x % sz y)) (wd1 (sz x % sz y)) (wd2 (sz x % sz y)) (wd3 (sz x % sz y)) 0 0 0 0 = zm) (hsn : sgB (dvN x y u zm) u = sn) :
    Calls Try.prog 109 #[wI x, wI y] w fun e w' => e = .returned (bif sn then .tuple #[wI (sgV (dvN x y u zm) u),
      wI (bif sgB (dvM x y u zm) (ng y) then sgV (dvM x y u zm) (ng y) else 0), .bool (sgB (dvM x y u zm) (ng y))] else .tuple #[wI 0, wI 0, .bool false]) ∧ Below w.heap.size w w' := by
  have HX := Lib.hid hx1
  have HY := Lib.hid hy1
  have HS := Lib.hid hsn
  clear hx1 hy1 hsn
  go_enter Try.func109, Try.ntmps109
  go_wp2_with fail
  refine name_world ?_
  intro W hW
  have v0 : Var W w.heap.size x := by rw [hW]; exact ((Blk.new _ _ _).alloc _).alloc _ |>.alloc _
  have v1 : Var W (w.heap.size + 1) y := by rw [hW]; exact ((Blk.new1 _ _ _ _).alloc _).alloc _
  have v2 : Var W (w.heap.size + 1 + 1) 0 := by rw [hW]; exact (Blk.new2 _ _ _ _ _).alloc _
  have v3 : Var W (w.heap.size + 1 + 1 + 1) 0 := by rw [hW]; exact Blk.new3 _ _ _ _ _ _
  have hb0 : Below w.heap.size w W := by rw [hW]; exact (((Below.refl _ _).alloc (Nat.le_refl _) _).alloc (by simp) _).alloc (by simp; omega) _ |>.alloc (by simp; omega) _
  clear hW hy
  have l0 := v0.lt
  have l1 := v1.lt
  have l3 := v3.lt
  have c0 := v0.c
  have c1 := v1.c
  have V0 := Lib.hid v0
  have V1 := Lib.hid v1
  have V2 := Lib.hid v2
  have V3 := Lib.hid v3
  have HU := Lib.hid hu
  have HZ := Lib.hid hzm
  clear v0 v1 v2 v3 hu hzm
  refine wp_region_FG2 10 8 9 [(0, 0), (0, 2), (1, 1), (1, 3), (1, 4), (0, 5), (0, 6), (2, 7)] [(3, 10), (3, 11)] (by kernel_rfl) (by kernel_rfl) (fun _ _ d _ _ => by cases d <;> exact Iff.rfl) rfl rfl rfl allocI rfl rfl rfl allocI rfl ?_
  have hb : Below W.heap.size W W.drew := (Below.refl _ _).drew
  iterate 2
    refine wpFG_take0 rfl rfl ?_
    go_big_quiet_step (rfl)
    refine wpQuiet_nil ?_
  refine wpFG_do rfl ?_
  intro w1 hg K hK
  replace hb := hb.trans (hg.mono hb.size)
  clear hg
  go_wp2_with ((first | (go_at_call 136; refine (size_any _ _).mono ?_; rintro e w2 ⟨rfl, hn⟩) | (go_at_call 135; refine (divided_any _ _ _ HX.out HY.out).mono ?_; rintro e w2 ⟨rfl, hn⟩)))
  refine hK.out _ _ hn ?_
  replace hb := hb.trans (hn.mono hb.size)
  clear hK K
  clear hn
  refine wpFG_do rfl ?_
  intro w1 hg K hK
  replace hb := hb.trans (hg.mono hb.size)
  clear hg
  go_wp2_with ((first | (go_at_call 136; refine (size_any _ _).mono ?_; rintro e w2 ⟨rfl, hn⟩) | (go_at_call 135; refine (divided_any _ _ _ HX.out HY.out).mono ?_; rintro e w2 ⟨rfl, hn⟩)))
  refine hK.out _ _ hn ?_
  replace hb := hb.trans (hn.mono hb.size)
  clear hK K
  clear hn
  refine wpFG_do rfl ?_
  intro w1 hg K hK
  replace hb := hb.trans (hg.mono hb.size)
  clear hg
  go_wp2_with ((first | (go_at_call 136; refine (size_any _ _).mono ?_; rintro e w2 ⟨rfl, hn⟩) | (go_at_call 135; refine (divided_any _ _ _ HX.out HY.out).mono ?_; rintro e w2 ⟨rfl, hn⟩)))
  refine hK.out _ _ hn ?_
  replace hb := hb.trans (hn.mono hb.size)
  clear hK K
  clear hn
  iterate 2
    refine wpFG_take0 rfl rfl ?_
    go_big_quiet_step (rfl)
    refine wpQuiet_nil ?_
  refine wpFG_take2 rfl rfl ?_
  go_big_quiet_step (rfl)
  refine wpQuiet_nil ?_
  refine wpFG_nil ?_
  clear hb
  intro w1 hg hb b1 b2 hne lb1 nb1 lb2 nb2
  clear hg
  simp only [Act.put, ptrTo, List.setIfInBounds_toArray, List.set_cons_succ, List.set_cons_zero]
  have c4 := Var.c (show Var w1 b1 0 from nb1)
  have f4 := Var.f (show Var w1 b1 0 from nb1)
  have c5 := Var.c (show Var w1 b2 0 from nb2)
  have f5 := Var.f (show Var w1 b2 0 from nb2)
  clear c0 c1 l0 l1
  refine wpG_do3 rfl ?_
  intro K hK
  go_wp2_with (fail)
  refine hK.out _ _ ?_
  clear hK K
  refine wpG_do3 rfl ?_
  intro K hK
  go_wp2_with (fail)
  refine hK.out _ _ ?_
  clear hK K
  refine wpG_nil ?_
  refine list_world ?_
  intro W1 hW1
  have hd : DvAt w x y (sz x / sz y) (sz x % sz y) b1 b2 W1 := by
    have h0 : DvAt w x y 0 0 b1 b2 w1 := ⟨V0.out.of hb, V1.out.of hb, V2.out.of hb, V3.out.of hb, nb1, nb2, hne, by omega, by omega, hb0.trans (hb.mono hb0.size)⟩
    rw [hW1]; exact (h0.setn _).setm _
  clear hW1 V0 V1 V2 V3 nb1 nb2 hb hb0 c4 f4 c5 f5 hne lb1 lb2 l3
  cases u
  · have hu : (ng x == ng y) = true := HU.out
    clear HU HZ
    have c0 := Var.c hd.v0
    have c1 := Var.c hd.v1
    have l0 := Blk.lt hd.v0
    have l1 := Blk.lt hd.v1
    have hD := Lib.hid hd
    clear hd
    go_wp2_with fail
    refine wp_region_up W1.heap.size 3 [(true, 0), (true, 2), (false, 1)] (by kernel_rfl) (by kernel_rfl) (fun _ _ d _ _ h => by cases d <;> exact h) ?_
    have hb : Below W1.heap.size W1 W1.drew := (Below.refl _ _).drew
    iterate 2
      refine wpS_takeL rfl rfl ?_
      go_big_quiet_step (rfl)
      refine wpQuiet_nil ?_
    refine wpS_doL rfl ?_
    intro K hK
    go_wp2_with ((go_at_call 88; refine (negative_any _ _).mono ?_; rintro e w2 ⟨rfl, hn⟩))
    replace hb := hb.trans (hn.mono hb.size)
    refine hK.out _ _ (up_iff.2 hb) ?_
    clear hK K
    clear hn
    refine wpS_nil ?_
    simp only [List.drop_succ_cons, List.drop_zero]
    go_wp2_with (go_at_call 88; refine (negative_any _ _).mono ?_; rintro e w2 ⟨rfl, hn⟩; replace hb := hb.trans (hn.mono hb.size); have hd := hD.out.of hb; have cn := Var.c hd.vn; have cm := Var.c hd.vm; clear hn hb c0 c1 l0 l1)
    refine calls_w ?_
    intro W3 hW3
    rw [← hW3] at hd
    clear hW3 cn cm
    cases sn
    · refine (signed_is (sz x / sz y) false false _ HS.out).mono ?_
      rintro e w4 ⟨rfl, hn⟩
      replace hd := hd.of hn
      have c2 := Var.c hd.v2
      have c3 := Var.c hd.v3
      have f2 := Var.f hd.v2
      have f3 := Var.f hd.v3
      have V2 := Lib.hid hd.v2
      have V3 := Lib.hid hd.v3
      have hbl := hd.below
      clear hn hd
      go_wp2
      refine post_world ?_
      intro W8 hW8
      have v2 : Var W8 (w.heap.size + 1 + 1) 0 := by rw [hW8]; exact (Var.put4 (Var.put4 V2.out 0) 0).set4 (by omega) _ _ _ _
      have v3 : Var W8 (w.heap.size + 1 + 1 + 1) 0 := by rw [hW8]; exact Var.put4 ((V3.out.set4 (by omega) _ _ _ _).set4 (by omega) _ _ _ _) 0
      have hb8 : Below w.heap.size w W8 := by
        rw [hW8]
        refine below_set4 (below_set4 (below_set4 hbl ?_ _ _ _ _) ?_ _ _ _ _) ?_ _ _ _ _ <;> omega
      clear hW8 c2 c3 f2 f3 V2 V3 hbl
      have c2 := Var.c v2
      have c3 := Var.c v3
      simp [bodyPost, results, Try.results109, go_sem, c2, c3]
      exact hb8
    · refine (signed_is (sz x / sz y) false true _ HS.out).mono ?_
      rintro e w4 ⟨rfl, hn⟩
      replace hd := hd.of hn
      have c2 := Var.c hd.v2
      have f2 := Var.f hd.v2
      clear hn
      go_wp2_with fail
      refine name_world ?_
      intro W5 hW5
      replace hd : DwAt w x y (sgV (sz x / sz y) false) (sz x % sz y) b1 b2 W5 := by rw [hW5]; exact hd.out2 _
      clear hW5 c2 f2
      have c1 := Var.c hd.v1
      have cm := Var.c hd.vm
      have l1 := Blk.lt hd.v1
      have lm := Blk.lt hd.vm
      have hD := Lib.hid hd
      clear hd
      refine wp_region_G 7 [(0, 0), (0, 1), (1, 2), (1, 3), (0, 4), (0, 5), (2, 6), (3, 7), (2, 8)] (by kernel_rfl) (by kernel_rfl) (fun _ _ d _ _ => by cases d <;> exact Iff.rfl) ?_
      have hb : Below W5.heap.size W5 W5.drew := (Below.refl _ _).drew
      iterate 2
        refine wpG_take0 rfl rfl ?_
        go_big_quiet_step (rfl)
        refine wpQuiet_nil ?_
      refine wpG_do1 rfl ?_
      intro K hK
      go_wp2_with ((first | (go_at_call 88; refine (negative_any _ _).mono ?_; rintro e w2 ⟨rfl, hn⟩) | (go_at_call 139; refine (signed_any (sz x % sz y) (ng y) _).mono ?_; rintro e w2 ⟨rfl, hn⟩)))
      replace hb := hb.trans (hn.mono hb.size)
      refine hK.out _ _ (up_iff.2 hb) ?_
      clear hK K
      clear hn
      refine wpG_do1 rfl ?_
      intro K hK
      go_wp2_with ((first | (go_at_call 88; refine (negative_any _ _).mono ?_; rintro e w2 ⟨rfl, hn⟩) | (go_at_call 139; refine (signed_any (sz x % sz y) (ng y) _).mono ?_; rintro e w2 ⟨rfl, hn⟩)))
      replace hb := hb.trans (hn.mono hb.size)
      refine hK.out _ _ (up_iff.2 hb) ?_
      clear hK K
      clear hn
      iterate 2
        refine wpG_take0 rfl rfl ?_
        go_big_quiet_step (rfl)
        refine wpQuiet_nil ?_
      refine wpG_take2 rfl rfl ?_
      go_big_quiet_step (rfl)
      refine wpQuiet_nil ?_
      have hd := hD.out.of hb
      have c3 := Var.c hd.v3
      have f3 := Var.f hd.v3
      clear c1 cm l1 lm
      refine wpG_do3 rfl ?_
      intro K hK
      go_wp2_with (fail)
      refine hK.out _ _ ?_
      clear hK K
      refine wpG_take2 rfl rfl ?_
      go_big_quiet_step (rfl)
      refine wpQuiet_nil ?_
      refine wpG_nil ?_
      go_wp2_with fail
      refine name_world ?_
      intro W6 hW6
      have hd6 := hd.out3 (bif sgB (sz x % sz y) (ng y) then sgV (sz x % sz y) (ng y) else 0)
      rw [← hW6] at hd6
      clear hW6 hd c3 f3 hb hD
      have c2 := Var.c hd6.1
      have c3 := Var.c hd6.2.1
      have f2 := Var.f hd6.1
      have f3 := Var.f hd6.2.1
      have hbl := hd6.2.2
      clear hd6
      go_region
      go_wp2
      simp [bodyPost, results, Try.results109, go_sem, c2, c3]
      refine ⟨by (repeat' apply And.intro) <;> rfl, ?_⟩
      refine (below_set4 (below_set4 hbl ?_ _ _ _ _) ?_ _ _ _ _).drew <;> omega
  · have hu : (ng x == ng y) = false := HU.out
    have hzm := HZ.out
    clear HU HZ
    cases zm
    · have c0 := Var.c hd.v0
      have c1 := Var.c hd.v1
      have l0 := Blk.lt hd.v0
      have l1 := Blk.lt hd.v1
      have hD := Lib.hid hd
      clear hd
      go_wp2_with fail
      refine wp_region_up W1.heap.size 3 [(true, 0), (true, 2), (false, 1)] (by kernel_rfl) (by kernel_rfl) (fun _ _ d _ _ h => by cases d <;> exact h) ?_
      have hb : Below W1.heap.size W1 W1.drew := (Below.refl _ _).drew
      iterate 2
        refine wpS_takeL rfl rfl ?_
        go_big_quiet_step (rfl)
        refine wpQuiet_nil ?_
      refine wpS_doL rfl ?_
      intro K hK
      go_wp2_with ((go_at_call 88; refine (negative_any _ _).mono ?_; rintro e w2 ⟨rfl, hn⟩))
      replace hb := hb.trans (hn.mono hb.size)
      refine hK.out _ _ (up_iff.2 hb) ?_
      clear hK K
      clear hn
      refine wpS_nil ?_
      simp only [List.drop_succ_cons, List.drop_zero]
      go_wp2_with (go_at_call 88; refine (negative_any _ _).mono ?_; rintro e w2 ⟨rfl, hn⟩; replace hb := hb.trans (hn.mono hb.size); have hd := hD.out.of hb; have cn := Var.c hd.vn; have cm := Var.c hd.vm; clear hn hb c0 c1 l0 l1)
      refine (plus_any (sz x / sz y) 0 1 _ (by decide) (by decide)).mono ?_
      rintro e w3 ⟨rfl, hn⟩
      rw [Int.add_zero]
      replace hd := hd.of hn
      clear hn cn cm
      have cn := Var.c hd.vn
      have fn := Var.f hd.vn
      go_wp2_with fail
      refine name_world ?_
      intro W4 hW4
      replace hd : DvAt w x y (sz x / sz y + 1) (sz x % sz y) b1 b2 W4 := by rw [hW4]; exact hd.setn _
      clear hW4 cn fn
      have c1 := Var.c hd.v1
      have cm := Var.c hd.vm
      have l1 := Blk.lt hd.v1
      have lm := Blk.lt hd.vm
      have hD := Lib.hid hd
      clear hd
      refine wp_region_up W4.heap.size 3 [(true, 0), (true, 2), (false, 1)] (by kernel_rfl) (by kernel_rfl) (fun _ _ d _ _ h => by cases d <;> exact h) ?_
      have hb : Below W4.heap.size W4 W4.drew := (Below.refl _ _).drew
      iterate 2
        refine wpS_takeL rfl rfl ?_
        go_big_quiet_step (rfl)
        refine wpQuiet_nil ?_
      refine wpS_doL rfl ?_
      intro K hK
      go_wp2_with ((go_at_call 136; refine (size_any _ _).mono ?_; rintro e w2 ⟨rfl, hn⟩))
      replace hb := hb.trans (hn.mono hb.size)
      refine hK.out _ _ (up_iff.2 hb) ?_
      clear hK K
      clear hn
      refine wpS_nil ?_
      simp only [List.drop_succ_cons, List.drop_zero]
      go_wp2_with fail
      refine (turned_any (sz x % sz y) _).mono ?_
      rintro e w5 ⟨rfl, hn⟩
      replace hb := hb.trans (hn.mono hb.size)
      clear hn
      go_wp2_with fail
      refine (plus_any (sz y) (-1 - sz x % sz y) 1 _ (by decide) (by decide)).mono ?_
      rintro e w6 ⟨rfl, hn⟩
      replace hb := hb.trans (hn.mono hb.size)
      clear hn
      have e6 : sz y + (-1 - sz x % sz y) + 1 = sz y - sz x % sz y := by omega
      rw [e6]
      clear e6
      have hd := hD.out.of hb
      clear hD hb c1 cm l1 lm
      have cm := Var.c hd.vm
      have fm := Var.f hd.vm
      have cn := Var.c hd.vn
      have hne := hd.hne
      have hne' := hd.hne.symm
      go_wp2_with fail
      clear hne hne'
      replace hd := hd.setm (sz y - sz x % sz y)
      clear fm
      refine calls_w ?_
      intro W3 hW3
      rw [← hW3] at hd
      clear hW3 cn cm
      cases sn
      · refine (signed_is (sz x / sz y + 1) true false _ HS.out).mono ?_
        rintro e w4 ⟨rfl, hn⟩
        replace hd := hd.of hn
        have c2 := Var.c hd.v2
        have c3 := Var.c hd.v3
        have f2 := Var.f hd.v2
        have f3 := Var.f hd.v3
        have V2 := Lib.hid hd.v2
        have V3 := Lib.hid hd.v3
        have hbl := hd.below
        clear hn hd
        go_wp2
        refine post_world ?_
        intro W8 hW8
        have v2 : Var W8 (w.heap.size + 1 + 1) 0 := by rw [hW8]; exact (Var.put4 (Var.put4 V2.out 0) 0).set4 (by omega) _ _ _ _
        have v3 : Var W8 (w.heap.size + 1 + 1 + 1) 0 := by rw [hW8]; exact Var.put4 ((V3.out.set4 (by omega) _ _ _ _).set4 (by omega) _ _ _ _) 0
        have hb8 : Below w.heap.size w W8 := by
          rw [hW8]
          refine below_set4 (below_set4 (below_set4 hbl ?_ _ _ _ _) ?_ _ _ _ _) ?_ _ _ _ _ <;> omega
        clear hW8 c2 c3 f2 f3 V2 V3 hbl
        have c2 := Var.c v2
        have c3 := Var.c v3
        simp [bodyPost, results, Try.results109, go_sem, c2, c3]
        exact hb8
      · refine (signed_is (sz x / sz y + 1) true true _ HS.out).mono ?_
        rintro e w4 ⟨rfl, hn⟩
        replace hd := hd.of hn
        have c2 := Var.c hd.v2
        have f2 := Var.f hd.v2
        clear hn
        go_wp2_with fail
        refine name_world ?_
        intro W5 hW5
        replace hd : DwAt w x y (sgV (sz x / sz y + 1) true) (sz y - sz x % sz y) b1 b2 W5 := by rw [hW5]; exact hd.out2 _
        clear hW5 c2 f2
        have c1 := Var.c hd.v1
        have cm := Var.c hd.vm
        have l1 := Blk.lt hd.v1
        have lm := Blk.lt hd.vm
        have hD := Lib.hid hd
        clear hd
        refine wp_region_G 7 [(0, 0), (0, 1), (1, 2), (1, 3), (0, 4), (0, 5), (2, 6), (3, 7), (2, 8)] (by kernel_rfl) (by kernel_rfl) (fun _ _ d _ _ => by cases d <;> exact Iff.rfl) ?_
        have hb : Below W5.heap.size W5 W5.drew := (Below.refl _ _).drew
        iterate 2
          refine wpG_take0 rfl rfl ?_
          go_big_quiet_step (rfl)
          refine wpQuiet_nil ?_
        refine wpG_do1 rfl ?_
        intro K hK
        go_wp2_with ((first | (go_at_call 88; refine (negative_any _ _).mono ?_; rintro e w2 ⟨rfl, hn⟩) | (go_at_call 139; refine (signed_any (sz y - sz x % sz y) (ng y) _).mono ?_; rintro e w2 ⟨rfl, hn⟩)))
        replace hb := hb.trans (hn.mono hb.size)
        refine hK.out _ _ (up_iff.2 hb) ?_
        clear hK K
        clear hn
        refine wpG_do1 rfl ?_
        intro K hK
        go_wp2_with ((first | (go_at_call 88; refine (negative_any _ _).mono ?_; rintro e w2 ⟨rfl, hn⟩) | (go_at_call 139; refine (signed_any (sz y - sz x % sz y) (ng y) _).mono ?_; rintro e w2 ⟨rfl, hn⟩)))
        replace hb := hb.trans (hn.mono hb.size)
        refine hK.out _ _ (up_iff.2 hb) ?_
        clear hK K
        clear hn
        iterate 2
          refine wpG_take0 rfl rfl ?_
          go_big_quiet_step (rfl)
          refine wpQuiet_nil ?_
        refine wpG_take2 rfl rfl ?_
        go_big_quiet_step (rfl)
        refine wpQuiet_nil ?_
        have hd := hD.out.of hb
        have c3 := Var.c hd.v3
        have f3 := Var.f hd.v3
        clear c1 cm l1 lm
        refine wpG_do3 rfl ?_
        intro K hK
        go_wp2_with (fail)
        refine hK.out _ _ ?_
        clear hK K
        refine wpG_take2 rfl rfl ?_
        go_big_quiet_step (rfl)
        refine wpQuiet_nil ?_
        refine wpG_nil ?_
        go_wp2_with fail
        refine name_world ?_
        intro W6 hW6
        have hd6 := hd.out3 (bif sgB (sz y - sz x % sz y) (ng y) then sgV (sz y - sz x % sz y) (ng y) else 0)
        rw [← hW6] at hd6
        clear hW6 hd c3 f3 hb hD
        have c2 := Var.c hd6.1
        have c3 := Var.c hd6.2.1
        have f2 := Var.f hd6.1
        have f3 := Var.f hd6.2.1
        have hbl := hd6.2.2
        clear hd6
        go_region
        go_wp2
        simp [bodyPost, results, Try.results109, go_sem, c2, c3]
        refine ⟨by (repeat' apply And.intro) <;> rfl, ?_⟩
        refine (below_set4 (below_set4 hbl ?_ _ _ _ _) ?_ _ _ _ _).drew <;> omega
    · have c0 := Var.c hd.v0
      have c1 := Var.c hd.v1
      have l0 := Blk.lt hd.v0
      have l1 := Blk.lt hd.v1
      have hD := Lib.hid hd
      clear hd
      go_wp2_with fail
      refine wp_region_up W1.heap.size 3 [(true, 0), (true, 2), (false, 1)] (by kernel_rfl) (by kernel_rfl) (fun _ _ d _ _ h => by cases d <;> exact h) ?_
      have hb : Below W1.heap.size W1 W1.drew := (Below.refl _ _).drew
      iterate 2
        refine wpS_takeL rfl rfl ?_
        go_big_quiet_step (rfl)
        refine wpQuiet_nil ?_
      refine wpS_doL rfl ?_
      intro K hK
      go_wp2_with ((go_at_call 88; refine (negative_any _ _).mono ?_; rintro e w2 ⟨rfl, hn⟩))
      replace hb := hb.trans (hn.mono hb.size)
      refine hK.out _ _ (up_iff.2 hb) ?_
      clear hK K
      clear hn
      refine wpS_nil ?_
      simp only [List.drop_succ_cons, List.drop_zero]
      go_wp2_with (go_at_call 88; refine (negative_any _ _).mono ?_; rintro e w2 ⟨rfl, hn⟩; replace hb := hb.trans (hn.mono hb.size); have hd := hD.out.of hb; have cn := Var.c hd.vn; have cm := Var.c hd.vm; clear hn hb c0 c1 l0 l1)
      refine calls_w ?_
      intro W3 hW3
      rw [← hW3] at hd
      clear hW3 cn cm
      cases sn
      · refine (signed_is (sz x / sz y) true false _ HS.out).mono ?_
        rintro e w4 ⟨rfl, hn⟩
        replace hd := hd.of hn
        have c2 := Var.c hd.v2
        have c3 := Var.c hd.v3
        have f2 := Var.f hd.v2
        have f3 := Var.f hd.v3
        have V2 := Lib.hid hd.v2
        have V3 := Lib.hid hd.v3
        have hbl := hd.below
        clear hn hd
        go_wp2
        refine post_world ?_
        intro W8 hW8
        have v2 : Var W8 (w.heap.size + 1 + 1) 0 := by rw [hW8]; exact (Var.put4 (Var.put4 V2.out 0) 0).set4 (by omega) _ _ _ _
        have v3 : Var W8 (w.heap.size + 1 + 1 + 1) 0 := by rw [hW8]; exact Var.put4 ((V3.out.set4 (by omega) _ _ _ _).set4 (by omega) _ _ _ _) 0
        have hb8 : Below w.heap.size w W8 := by
          rw [hW8]
          refine below_set4 (below_set4 (below_set4 hbl ?_ _ _ _ _) ?_ _ _ _ _) ?_ _ _ _ _ <;> omega
        clear hW8 c2 c3 f2 f3 V2 V3 hbl
        have c2 := Var.c v2
        have c3 := Var.c v3
        simp [bodyPost, results, Try.results109, go_sem, c2, c3]
        exact hb8
      · refine (signed_is (sz x / sz y) true true _ HS.out).mono ?_
        rintro e w4 ⟨rfl, hn⟩
        replace hd := hd.of hn
        have c2 := Var.c hd.v2
        have f2 := Var.f hd.v2
        clear hn
        go_wp2_with fail
        refine name_world ?_
        intro W5 hW5
        replace hd : DwAt w x y (sgV (sz x / sz y) true) (sz x % sz y) b1 b2 W5 := by rw [hW5]; exact hd.out2 _
        clear hW5 c2 f2
        have c1 := Var.c hd.v1
        have cm := Var.c hd.vm
        have l1 := Blk.lt hd.v1
        have lm := Blk.lt hd.vm
        have hD := Lib.hid hd
        clear hd
        refine wp_region_G 7 [(0, 0), (0, 1), (1, 2), (1, 3), (0, 4), (0, 5), (2, 6), (3, 7), (2, 8)] (by kernel_rfl) (by kernel_rfl) (fun _ _ d _ _ => by cases d <;> exact Iff.rfl) ?_
        have hb : Below W5.heap.size W5 W5.drew := (Below.refl _ _).drew
        iterate 2
          refine wpG_take0 rfl rfl ?_
          go_big_quiet_step (rfl)
          refine wpQuiet_nil ?_
        refine wpG_do1 rfl ?_
        intro K hK
        go_wp2_with ((first | (go_at_call 88; refine (negative_any _ _).mono ?_; rintro e w2 ⟨rfl, hn⟩) | (go_at_call 139; refine (signed_any (sz x % sz y) (ng y) _).mono ?_; rintro e w2 ⟨rfl, hn⟩)))
        replace hb := hb.trans (hn.mono hb.size)
        refine hK.out _ _ (up_iff.2 hb) ?_
        clear hK K
        clear hn
        refine wpG_do1 rfl ?_
        intro K hK
        go_wp2_with ((first | (go_at_call 88; refine (negative_any _ _).mono ?_; rintro e w2 ⟨rfl, hn⟩) | (go_at_call 139; refine (signed_any (sz x % sz y) (ng y) _).mono ?_; rintro e w2 ⟨rfl, hn⟩)))
        replace hb := hb.trans (hn.mono hb.size)
        refine hK.out _ _ (up_iff.2 hb) ?_
        clear hK K
        clear hn
        iterate 2
          refine wpG_take0 rfl rfl ?_
          go_big_quiet_step (rfl)
          refine wpQuiet_nil ?_
        refine wpG_take2 rfl rfl ?_
        go_big_quiet_step (rfl)
        refine wpQuiet_nil ?_
        have hd := hD.out.of hb
        have c3 := Var.c hd.v3
        have f3 := Var.f hd.v3
        clear c1 cm l1 lm
        refine wpG_do3 rfl ?_
        intro K hK
        go_wp2_with (fail)
        refine hK.out _ _ ?_
        clear hK K
        refine wpG_take2 rfl rfl ?_
        go_big_quiet_step (rfl)
        refine wpQuiet_nil ?_
        refine wpG_nil ?_
        go_wp2_with fail
        refine name_world ?_
        intro W6 hW6
        have hd6 := hd.out3 (bif sgB (sz x % sz y) (ng y) then sgV (sz x % sz y) (ng y) else 0)
        rw [← hW6] at hd6
        clear hW6 hd c3 f3 hb hD
        have c2 := Var.c hd6.1
        have c3 := Var.c hd6.2.1
        have f2 := Var.f hd6.1
        have f3 := Var.f hd6.2.1
        have hbl := hd6.2.2
        clear hd6
        go_region
        go_wp2
        simp [bodyPost, results, Try.results109, go_sem, c2, c3]
        refine ⟨by (repeat' apply And.intro) <;> rfl, ?_⟩
        refine (below_set4 (below_set4 hbl ?_ _ _ _ _) ?_ _ _ _ _).drew <;> omega
end Go.Proofs.Ytlcbomjdbdgbmaa
/- Contracts of package wide, in numbers: Div, Add, Sub, Neg, Small. Conditions: the numbers are numbers of 256 bits. -/
namespace Go.Proofs.Ytlcbomjdbdgbmaa
open Go.RowKit

theorem sgB_of {s : Int} (b : Bool) (h0 : 0 ≤ s) (h1 : s ≤ b255) : sgB s b = (b || decide (s < b255)) := by
  unfold sgB
  cases b
  · rw [cond_false, Bool.false_or, Bool.eq_iff_iff, decide_eq_true_iff, Bool.not_eq_true', ← Bool.not_eq_true, ng_iff]
    unfold b255 b256 at *; omega
  · rw [cond_true, Bool.true_or, eq4_0, ng_in (by unfold InI b255 at *; omega), eq0_iff (by unfold b255 at *; omega)]
    rw [Bool.or_eq_true, decide_eq_true_iff, decide_eq_true_iff]; omega

/-- does Div answer? -/
def dvOk (x y : Int) : Bool := decide (y ≠ 0) && decide (fq x y < b255)

theorem Div_any (x y : Int) (w : World) (ix : InI x) (iy : InI y) :
    Calls Try.prog 109 #[wI x, wI y] w fun e w' => e = .returned (bif dvOk x y then .tuple #[wI (fq x y), wI (fr x y), .bool true] else .tuple #[wI 0, wI 0, .bool false]) ∧ Below w.heap.size w w' := by
  by_cases hy : y = 0
  · subst hy
    have e : dvOk x 0 = false := by simp [dvOk]
    rw [e]
    exact Div_0 x 0 w rfl
  · have bx := sz_bd ix
    have by' := sz_bd iy
    have sy : 0 < sz y := by rw [sz_in iy]; omega
    obtain ⟨s1, s2, n0, n1, m0, m1⟩ := dv_spec ix iy hy
    have hz : eq4 (wd0 (sz x % sz y)) (wd1 (sz x % sz y)) (wd2 (sz x % sz y)) (wd3 (sz x % sz y)) 0 0 0 0 = zmI x y := eq4_0 _
    have hne : eq4 (wd0 y) (wd1 y) (wd2 y) (wd3 y) 0 0 0 0 = false := by
      rw [eq4_0, decide_eq_false_iff_not]
      obtain ⟨h1, h2⟩ := iy
      unfold b255 b256 at *; omega
    have hu : (ng x == ng y) = !(ng x != ng y) := by cases ng x <;> cases ng y <;> rfl
    refine (Div_go x y w (ng x != ng y) (zmI x y) _ hne (by unfold b255 b256 at *; omega) (by unfold b255 b256 at *; omega) hu hz rfl).mono fun e w' ⟨he, hw⟩ => ⟨?_, hw⟩
    rw [he]
    have g1 := sgB_of (ng x != ng y) n0 n1
    have g2 : sgB (dvM x y (ng x != ng y) (zmI x y)) (ng y) = true := by
      rw [sgB_of (ng y) m0 (by omega), Bool.or_eq_true, decide_eq_true_iff]
      rcases Int.lt_or_le y 0 with h | h
      · exact .inl (by rw [ng_in iy]; simpa using h)
      · right
        have : sz y = y := sz_pos iy h
        obtain ⟨h1, h2⟩ := iy
        omega
    have g3 : dvOk x y = sgB (dvN x y (ng x != ng y) (zmI x y)) (ng x != ng y) := by
      rw [g1]
      unfold dvOk
      have : decide (y ≠ 0) = true := by simpa using hy
      rw [this, Bool.true_and, ← s1]
      have n0' : 0 ≤ dvN x y (ng x != ng y) (zmI x y) := n0
      cases hu' : (ng x != ng y)
      · rfl
      · rw [hu'] at n0'
        simp only [cond_true, Bool.true_or, decide_eq_true_iff]; unfold b255 at *; omega
    rw [g2, ← g3]
    unfold sgV
    rw [s1, cond_true, s2]

/-- does a number fit? -/
def okI (x : Int) : Bool := decide (InI x)
theorem addB_ok {x y : Int} (ix : InI x) (iy : InI y) : addB x y = okI (x + y) := by
  unfold addB okI
  rw [ng_in ix, ng_in iy]
  have hs := ng_iff (x + y)
  obtain ⟨h1, h2⟩ := ix
  obtain ⟨h3, h4⟩ := iy
  rw [Bool.eq_iff_iff, decide_eq_true_iff]
  unfold InI
  cases hn : ng (x + y)
  · have hs' : ¬ b255 ≤ (x + y) % b256 := fun h => by rw [hs.2 h] at hn; cases hn
    by_cases a : x < 0 <;> by_cases b : y < 0 <;> simp [a, b] <;> unfold b255 b256 at * <;> omega
  · have hs' := hs.1 hn
    by_cases a : x < 0 <;> by_cases b : y < 0 <;> simp [a, b] <;> unfold b255 b256 at * <;> omega
theorem subB_ok {x y : Int} (ix : InI x) (iy : InI y) : subB x y = okI (x - y) := by
  unfold subB okI
  rw [ng_in ix, ng_in iy]
  have hs := ng_iff (x - y)
  obtain ⟨h1, h2⟩ := ix
  obtain ⟨h3, h4⟩ := iy
  rw [Bool.eq_iff_iff, decide_eq_true_iff]
  unfold InI
  cases hn : ng (x - y)
  · have hs' : ¬ b255 ≤ (x - y) % b256 := fun h => by rw [hs.2 h] at hn; cases hn
    by_cases a : x < 0 <;> by_cases b : y < 0 <;> simp [a, b] <;> unfold b255 b256 at * <;> omega
  · have hs' := hs.1 hn
    by_cases a : x < 0 <;> by_cases b : y < 0 <;> simp [a, b] <;> unfold b255 b256 at * <;> omega

theorem Add_ok (x y : Int) (w : World) (ix : InI x) (iy : InI y) : Calls Try.prog 122 #[wI x, wI y] w fun e w' => e = .returned (.tuple #[wI (bif okI (x + y) then x + y else 0), .bool (okI (x + y))]) ∧ Below w.heap.size w w' := by
  rw [← addB_ok ix iy]; exact Add_any x y w
theorem Sub_ok (x y : Int) (w : World) (ix : InI x) (iy : InI y) : Calls Try.prog 123 #[wI x, wI y] w fun e w' => e = .returned (.tuple #[wI (bif okI (x - y) then x - y else 0), .bool (okI (x - y))]) ∧ Below w.heap.size w w' := by
  rw [← subB_ok ix iy]; exact Sub_any x y w
end Go.Proofs.Ytlcbomjdbdgbmaa
/- The walks of gromaref01: Minus, sizes, Cmp, Sign. Conditions: the numbers have fewer than 2^30 digits. -/
namespace Go.Proofs.Ytlcbomjdbdgbmaa
open Go.RowKit

/-- a slice of ints that holds these digits -/
structure Sl (w : World) (ao : Option Addr) (b : Nat) (cap : Nat) (ds : List Int) : Prop where
  ptr : 0 < ds.length → ao = some ⟨b, 0, none⟩
  nil : ao = none → cap = 0
  capl : ds.length ≤ cap
  len : ds.length < 1073741824
  capb : cap ≤ 9223372036854775807
  cell : ∀ i, i < ds.length → w.cell? ⟨b, i, none⟩ = some (.int .i64 (ds.getD i 0))
  blk : 0 < ds.length → b < w.heap.size
theorem Sl.of {w w' : World} {ao : Option Addr} {b cap : Nat} {ds : List Int} (h : Sl w ao b cap ds) (hb : Below w.heap.size w w') : Sl w' ao b cap ds :=
  ⟨h.ptr, h.nil, h.capl, h.len, h.capb, fun i hi => by rw [hb.cell (p := ⟨b, i, none⟩) (h.blk (by omega))]; exact h.cell i hi, fun hl => Nat.lt_of_lt_of_le (h.blk hl) hb.size⟩

/-- a Big that is the number n, of at most L digits -/
def Big (w : World) (v : Value) (n : Int) (L : Nat) : Prop :=
  ∃ (neg : Bool) (ao : Option Addr) (b cap : Nat) (ds : List Int), v = .agg #[.bool neg, .slice ao ds.length cap] ∧ Sl w ao b cap ds ∧ DigOk ds ∧ Norm ds ∧ (ds = [] → neg = false ∧ ao = none) ∧ n = (bif neg then -dval ds else dval ds) ∧ ds.length ≤ L
theorem Big.of {w w' : World} {v : Value} {n : Int} {L : Nat} (h : Big w v n L) (hb : Below w.heap.size w w') : Big w' v n L := by
  obtain ⟨neg, ao, b, cap, ds, h1, h2, h3⟩ := h
  exact ⟨neg, ao, b, cap, ds, h1, h2.of hb, h3⟩
theorem Big.drew {w : World} {v : Value} {n : Int} {L : Nat} (h : Big w v n L) : Big w.drew v n L := h.of (Below.refl _ _).drew
theorem Big.zero (w : World) (L : Nat) : Big w (.agg #[.bool false, .slice none 0 0]) 0 L :=
  ⟨false, none, 0, 0, [], rfl, ⟨fun h => absurd h (Nat.lt_irrefl 0), fun _ => rfl, Nat.le_refl _, by decide, by decide, fun i hi => absurd hi (Nat.not_lt_zero i), fun h => absurd h (Nat.lt_irrefl 0)⟩, DigOk.nil, .inl rfl, fun _ => ⟨rfl, rfl⟩, rfl, Nat.zero_le _⟩
theorem Big.mono {w : World} {v : Value} {n : Int} {L L' : Nat} (h : Big w v n L) (hl : L ≤ L') : Big w v n L' := by
  obtain ⟨neg, ao, b, cap, ds, h1, h2, h3, h4, h5, h6, h7⟩ := h
  exact ⟨neg, ao, b, cap, ds, h1, h2, h3, h4, h5, h6, Nat.le_trans h7 hl⟩


/-- it hands back some Big that is n -/
def GivesBig (w : World) (n : Int) (L : Nat) (e : Ending) (w' : World) : Prop := ∃ v, e = .returned v ∧ Big w' v n L ∧ Below w.heap.size w w'

set_option maxRecDepth 100000 in
theorem Minus_any (v : Value) (n : Int) (L : Nat) (w : World) (h : Big w v n L) : Calls Try.prog 25 #[v] w (GivesBig w (-n) L) := by
  obtain ⟨neg, ao, b, cap, ds, rfl, hs, hd, hn, hz, hv, hl⟩ := h
  by_cases h0 : ds = []
  · subst h0
    obtain ⟨rfl, rfl⟩ := hz rfl
    have hc := hs.nil rfl
    subst hc
    have HV := Lib.hid hv
    clear hv hz hn hd hs
    have hlen : ([] : List Int).length = 0 := rfl
    rw [hlen]
    clear hlen
    go_enter Try.func25, Try.ntmps25
    go_wp2
    simp [bodyPost, results, Try.results25, go_sem]
    refine ⟨_, rfl, ?_, ?_⟩
    · rw [HV.out]; exact Big.zero _ _
    · (repeat (first | exact Below.refl _ _ | refine below_drewN ?_ _ | refine Below.drew ?_ | refine Below.alloc ?_ (by simp) _ | refine Below.alloc ?_ (by simp; omega) _))
  · have hlp : 0 < ds.length := List.length_pos_iff.2 h0
    have hl0 : ((ds.length : Int) == 0) = false := by simp; omega
    have hlb := hs.len
    have HV := Lib.hid hv
    have HS := Lib.hid hs
    have HD := Lib.hid (And.intro hd (And.intro hn hl))
    clear hz hv hs hd hn hl
    go_enter Try.func25, Try.ntmps25
    go_wp2
    simp [bodyPost, results, Try.results25, go_sem]
    have hb : Below w.heap.size w ((w.alloc (Obj.cells #[Value.bool neg, Value.slice ao ds.length cap] 28)).alloc (Obj.cells #[Value.bool !neg, Value.slice ao ds.length cap] 28)) := by
      (repeat (first | exact Below.refl _ _ | refine below_drewN ?_ _ | refine Below.drew ?_ | refine Below.alloc ?_ (by simp) _ | refine Below.alloc ?_ (by simp; omega) _))
    exact ⟨_, rfl, ⟨!neg, ao, b, cap, ds, rfl, HS.out.of hb, HD.out.1, HD.out.2.1, fun h => absurd h h0, by rw [HV.out]; cases neg <;> simp, HD.out.2.2⟩, hb⟩

set_option maxRecDepth 100000 in
set_option maxHeartbeats 1000000 in
theorem sizes_any (ao bo : Option Addr) (b b' cap cap' : Nat) (xs ys : List Int) (w : World) (ha : Sl w ao b cap xs) (hb : Sl w bo b' cap' ys) (da : DigOk xs) (db : DigOk ys) (na : Norm xs) (nb : Norm ys) :
    Calls Try.prog 82 #[.slice ao xs.length cap, .slice bo ys.length cap'] w fun e w' => e = .returned (.int .i64 (cmpI (dval xs) (dval ys))) ∧ Below w.heap.size w w' := by
  have HA := Lib.hid ha
  have HB := Lib.hid hb
  have la := ha.len
  have lb := hb.len
  clear ha hb
  rcases Nat.lt_trichotomy xs.length ys.length with h | h | h
  · rw [cmpI_lt (len_lt da db nb h)]
    clear da db na nb
    go_enter Try.func82, Try.ntmps82
    go_wp2
    go_ret
    exact ⟨rfl, Below.refl _ _⟩
  · obtain ⟨n, hn⟩ : ∃ n, n = xs.length := ⟨_, rfl⟩
    have hn' : n = ys.length := hn.trans h
    have HN := Lib.hid hn
    have HN' := Lib.hid hn'
    have e1 : xs.length = n := hn.symm
    have e2 : ys.length = n := hn'.symm
    rw [e1, e2]
    rw [e1] at la
    clear e1 e2 hn hn' h lb
    have D := Lib.hid (And.intro da db)
    clear da db na nb
    go_enter Try.func82, Try.ntmps82
    go_wp2
    go_loopw [5] (fun i wr => ∃ k : Nat, k ≤ n ∧ i = .int .i64 ((k : Int) - 1) ∧ Hid (xs.drop k = ys.drop k) ∧ Below w.heap.size w wr) (fun i _ => (intOf i + 1).toNat)
    case atStart => exact ⟨n, Nat.le_refl _, rfl, (by rw [List.drop_eq_nil_of_le (by rw [HN.out]; exact Nat.le_refl _), List.drop_eq_nil_of_le (by rw [HN'.out]; exact Nat.le_refl _)] : xs.drop n = ys.drop n), Below.refl _ _⟩
    case round =>
      rename_i i0 wr
      obtain ⟨k, hk, rfl, hd, hbl⟩ := hrel
      cases k with
      | zero =>
        have e1 : ((0 : Nat) : Int) - 1 = -1 := by omega
        rw [e1]
        clear e1
        go_wp2
        go_ret
        have e : dval xs = dval ys := by have := hd.out; simp only [List.drop_zero] at this; rw [this]
        exact ⟨by rw [e, cmpI_eq]; rfl, hbl⟩
      | succ j =>
        have e1 : ((j + 1 : Nat) : Int) - 1 = (j : Int) := by omega
        rw [e1]
        clear e1
        have ja : j < xs.length := by rw [← HN.out]; omega
        have jb : j < ys.length := by rw [← HN'.out]; omega
        obtain rfl := HA.out.ptr (by omega)
        obtain rfl := HB.out.ptr (by omega)
        have ba := HA.out.blk (by omega)
        have bb := HB.out.blk (by omega)
        have c0 : wr.cell? ⟨b, j, none⟩ = some (.int .i64 (xs.getD j 0)) := by rw [hbl.cell (p := ⟨b, j, none⟩) ba]; exact HA.out.cell j ja
        have c1 : wr.cell? ⟨b', j, none⟩ = some (.int .i64 (ys.getD j 0)) := by rw [hbl.cell (p := ⟨b', j, none⟩) bb]; exact HB.out.cell j jb
        have JA := Lib.hid (And.intro ja (HN.out.symm.trans HN'.out))
        clear ja jb ba bb
        obtain ⟨x, hx⟩ : ∃ x, x = xs.getD j 0 := ⟨_, rfl⟩
        obtain ⟨y, hy⟩ : ∃ y, y = ys.getD j 0 := ⟨_, rfl⟩
        rw [← hx] at c0
        rw [← hy] at c1
        have HX := Lib.hid hx
        have HY := Lib.hid hy
        clear hx hy
        rcases Int.lt_trichotomy x y with hxy | hxy | hxy
        · go_wp2
          go_quiet (fail)
          go_wp2
          go_ret
          exact ⟨by rw [cmpI_lt (dig_lt D.out.1 D.out.2 JA.out.1 JA.out.2 hd.out (by rw [← HX.out, ← HY.out]; exact hxy))]; rfl, below_drewN hbl _⟩
        · subst hxy
          go_wp2
          go_quiet (fail)
          go_wp2
          go_quiet (fail)
          go_wp2
          go_roundw
          case rel => exact ⟨j, by omega, rfl, drop_eq JA.out.1 JA.out.2 hd.out (by rw [← HX.out, ← HY.out]), below_drewN hbl _⟩
          case measure => simp [intOf]
        · go_wp2
          go_quiet (fail)
          go_wp2
          go_quiet (fail)
          go_wp2
          go_ret
          exact ⟨by rw [cmpI_gt (dig_lt D.out.2 D.out.1 (by rw [← JA.out.2]; exact JA.out.1) JA.out.2.symm hd.out.symm (by rw [← HX.out, ← HY.out]; exact hxy))]; rfl, below_drewN (below_drewN hbl _) _⟩
  · have e : dval ys < dval xs := len_lt db da na h
    rw [cmpI_gt e]
    clear da db na nb e
    go_enter Try.func82, Try.ntmps82
    go_wp2
    go_ret
    exact ⟨rfl, Below.refl _ _⟩

theorem cmpI_neg (x y : Int) : cmpI (-y) (-x) = cmpI x y := by
  rcases Int.lt_trichotomy x y with h | h | h
  · rw [cmpI_lt h, cmpI_lt (by omega)]
  · subst h; rw [cmpI_eq, cmpI_eq]
  · rw [cmpI_gt h, cmpI_gt (by omega)]

set_option maxRecDepth 100000 in
set_option maxHeartbeats 1000000 in
theorem bigCmp_any (v v' : Value) (n m : Int) (L L' : Nat) (w : World) (h : Big w v n L) (h' : Big w v' m L') :
    Calls Try.prog 23 #[v, v'] w fun e w' => e = .returned (.int .i64 (cmpI n m)) ∧ Below w.heap.size w w' := by
  obtain ⟨neg, ao, b, cap, ds, rfl, hs, hd, hn, hz, hv, hl⟩ := h
  obtain ⟨neg', ao', b', cap', ds', rfl, hs', hd', hn', hz', hv', hl'⟩ := h'
  have HV := Lib.hid hv
  have HV' := Lib.hid hv'
  have HS := Lib.hid hs
  have HS' := Lib.hid hs'
  have HD := Lib.hid (And.intro hd (And.intro hn hz))
  have HD' := Lib.hid (And.intro hd' (And.intro hn' hz'))
  clear hz hv hs hd hn hl hz' hv' hs' hd' hn' hl'
  have b0 := (dval_bd HD.out.1).1
  have b0' := (dval_bd HD'.out.1).1
  have pos : neg = true → 0 < dval ds := fun hneg => by
    rcases Int.lt_or_eq_of_le b0 with h | h
    · exact h
    · have := (HD.out.2.2 (norm_zero HD.out.1 HD.out.2.1 h.symm)).1; rw [hneg] at this; cases this
  have pos' : neg' = true → 0 < dval ds' := fun hneg => by
    rcases Int.lt_or_eq_of_le b0' with h | h
    · exact h
    · have := (HD'.out.2.2 (norm_zero HD'.out.1 HD'.out.2.1 h.symm)).1; rw [hneg] at this; cases this
  have PO := Lib.hid pos
  have PO' := Lib.hid pos'
  clear pos pos' b0 b0'
  have bl2 : ∀ c1 c2 : Array Value, Below w.heap.size w ((w.alloc (.cells c1 28)).alloc (.cells c2 28)) := fun c1 c2 => ((Below.refl _ _).alloc (Nat.le_refl _) _).alloc (by simp) _
  have BL := Lib.hid bl2
  clear bl2
  cases neg <;> cases neg'
  · go_enter Try.func23, Try.ntmps23
    go_wp2_with fail
    refine (sizes_any ao ao' b b' cap cap' ds ds' _ (HS.out.of (BL.out _ _)) (HS'.out.of (BL.out _ _)) HD.out.1 HD'.out.1 HD.out.2.1 HD'.out.2.1).mono ?_
    rintro e w2 ⟨rfl, hn⟩
    go_wp2
    go_ret
    exact ⟨by rw [HV.out, HV'.out]; rfl, (BL.out _ _).trans (hn.mono (by simp; omega))⟩
  · go_enter Try.func23, Try.ntmps23
    go_wp2
    go_ret
    refine ⟨?_, BL.out _ _⟩
    have e : m < n := by
      have h1 := (dval_bd HD.out.1).1; have h2 := PO'.out (by trivial)
      rw [HV.out, HV'.out]; simp only [cond_true, cond_false]; omega
    rw [cmpI_gt e]; rfl
  · go_enter Try.func23, Try.ntmps23
    go_wp2
    go_ret
    refine ⟨?_, BL.out _ _⟩
    have e : n < m := by
      have h1 := (dval_bd HD'.out.1).1; have h2 := PO.out (by trivial)
      rw [HV.out, HV'.out]; simp only [cond_true, cond_false]; omega
    rw [cmpI_lt e]; rfl
  · go_enter Try.func23, Try.ntmps23
    go_wp2_with fail
    refine (sizes_any ao' ao b' b cap' cap ds' ds _ (HS'.out.of (BL.out _ _)) (HS.out.of (BL.out _ _)) HD'.out.1 HD.out.1 HD'.out.2.1 HD.out.2.1).mono ?_
    rintro e w2 ⟨rfl, hn⟩
    go_wp2
    go_ret
    exact ⟨by rw [HV.out, HV'.out]; simp only [cond_true, cmpI_neg]; rfl, (BL.out _ _).trans (hn.mono (by simp; omega))⟩

theorem cmpI_sign (x : Int) : cmpI x 0 = x.sign := by
  rcases Int.lt_trichotomy x 0 with h | h | h
  · rw [cmpI_lt h, Int.sign_eq_neg_one_of_neg h]
  · subst h; rw [cmpI_eq]; rfl
  · rw [cmpI_gt h, Int.sign_eq_one_of_pos h]

set_option maxRecDepth 100000 in
theorem bigSign_any (v : Value) (n : Int) (L : Nat) (w : World) (h : Big w v n L) :
    Calls Try.prog 67 #[v] w fun e w' => e = .returned (.int .i64 n.sign) ∧ Below w.heap.size w w' := by
  rw [← cmpI_sign]
  have HB := Lib.hid h
  obtain ⟨neg, ao, b, cap, ds, rfl, h⟩ := h
  clear h
  go_enter Try.func67, Try.ntmps67
  go_wp2_with fail
  refine (bigCmp_any _ _ n 0 L L _ (HB.out.of ((Below.refl _ _).alloc (Nat.le_refl _) _)) (Big.zero _ _)).mono ?_
  rintro e w2 ⟨rfl, hn⟩
  go_wp2
  go_ret
  exact ⟨rfl, ((Below.refl _ _).alloc (Nat.le_refl _) _).trans (hn.mono (by simp))⟩
end Go.Proofs.Ytlcbomjdbdgbmaa
/- The walk of gromaref01's trim. Conditions: fewer than 2^30 digits. -/
namespace Go.Proofs.Ytlcbomjdbdgbmaa
open Go.RowKit

theorem Sl.cut {w : World} {b cap : Nat} {ds : List Int} (h : Sl w (some ⟨b, 0, none⟩) b cap ds) {j : Nat} (hj : j < ds.length) : Sl w (some ⟨b, 0, none⟩) b cap (ds.take (j + 1)) := by
  have hl : (ds.take (j + 1)).length = j + 1 := by rw [List.length_take]; omega
  have h1 := h.capl
  have h2 := h.len
  refine ⟨fun _ => rfl, fun h => (by cases h), by omega, by omega, h.capb, fun i hi => ?_, fun _ => h.blk (by omega)⟩
  rw [hl] at hi
  rw [h.cell i (by omega)]
  simp [hi]
theorem Sl.below {w w' : World} {ao : Option Addr} {b cap : Nat} {ds : List Int} (h : Sl w ao b cap ds) (hb : Below w.heap.size w w') : Sl w' ao b cap ds := h.of hb

set_option maxRecDepth 100000 in
set_option maxHeartbeats 1000000 in
theorem trim_any (neg : Bool) (ao : Option Addr) (b cap : Nat) (ds : List Int) (w : World) (hs : Sl w ao b cap ds) (hd : DigOk ds) (L : Nat) (hL : ds.length ≤ L) :
    Calls Try.prog 80 #[.agg #[.bool neg, .slice ao ds.length cap]] w (GivesBig w (bif neg then -dval ds else dval ds) L) := by
  have HS := Lib.hid hs
  have HD := Lib.hid hd
  have HL := Lib.hid hL
  have ll := hs.len
  have cl := hs.capl
  have cb := hs.capb
  clear hs hd hL
  obtain ⟨N, hN⟩ : ∃ N, N = ds.length := ⟨_, rfl⟩
  have HN := Lib.hid hN
  rw [← hN] at ll cl ⊢
  clear hN
  go_enter Try.func80, Try.ntmps80
  go_wp2_with fail
  refine name_world ?_
  intro W hW
  have k0 : Blk W w.heap.size #[.bool neg, .slice ao N cap] 28 := by rw [hW]; exact (Blk.new _ _ _).alloc _
  have k1 : Blk W (w.heap.size + 1) #[.bool false, .slice none 0 0] 28 := by rw [hW]; exact Blk.new1 _ _ _ _
  have hb0 : Below w.heap.size w W := by rw [hW]; (repeat (first | exact Below.refl _ _ | refine below_drewN ?_ _ | refine Below.drew ?_ | refine Below.alloc ?_ (by simp) _ | refine Below.alloc ?_ (by simp; omega) _))
  clear hW
  have c0 := k0.cell 0
  have c1 := k0.cell 1
  simp only [List.getElem?_toArray, List.getElem?_cons_zero, List.getElem?_cons_succ] at c0 c1
  have d0 := k1.cell 0
  have d1 := k1.cell 1
  have f0 := k1.free 0
  have f1 := k1.free 1
  simp only [List.getElem?_toArray, List.getElem?_cons_zero, List.getElem?_cons_succ] at d0 d1
  have K0 := Lib.hid k0
  have K1 := Lib.hid k1
  have l0 := k0.lt
  clear k0 k1
  go_loopw [3] (fun i wr => ∃ k : Nat, k ≤ N ∧ i = .int .i64 k ∧ Hid (dval (ds.take k) = dval ds) ∧ W = wr) (fun i _ => (intOf i).toNat)
  case atStart => exact ⟨N, Nat.le_refl _, rfl, (by rw [List.take_of_length_le (by rw [HN.out]; exact Nat.le_refl _)] : dval (ds.take N) = dval ds), rfl⟩
  case round =>
    rename_i i0 wr
    obtain ⟨k, hk, rfl, hd, rfl⟩ := hrel
    cases k with
    | zero =>
      have hz : dval ds = 0 := by have := hd.out; rw [List.take_zero] at this; exact this.symm
      have HZ := Lib.hid hz
      clear hz hd
      go_wp2
      simp [bodyPost, results, Try.results80, go_sem, d0, d1]
      refine ⟨_, rfl, ?_, ?_⟩
      · have e : (bif neg then -dval ds else dval ds) = 0 := by rw [HZ.out]; cases neg <;> rfl
        rw [e]; exact Big.zero _ _
      · refine Below.setCell (Below.setCell hb0 ?_ _) ?_ _ <;> exact Nat.le_succ _
    | succ j =>
      have ja : j < ds.length := by rw [← HN.out]; omega
      obtain rfl := HS.out.ptr (by omega)
      have ba := HS.out.blk (by omega)
      have e0 : W.cell? ⟨b, j, none⟩ = some (.int .i64 (ds.getD j 0)) := by rw [hb0.cell (p := ⟨b, j, none⟩) ba]; exact HS.out.cell j ja
      obtain ⟨x, hx⟩ : ∃ x, x = ds.getD j 0 := ⟨_, rfl⟩
      rw [← hx] at e0
      have HX := Lib.hid hx
      have JA := Lib.hid ja
      clear hx ja ba
      have e1 : ((j + 1 : Nat) : Int) - 1 = (j : Int) := by omega
      by_cases hx0 : x = 0
      · subst hx0
        go_wp2
        go_roundw
        case rel => exact ⟨j, by omega, by go_num, dval_take_zero JA.out HX.out.symm hd.out, trivial⟩
        case measure => simp [intOf]
      · have hx1 : (x == 0) = false := by simpa using hx0
        have HX0 := Lib.hid hx0
        clear hx0
        go_wp2_with fail
        have D0 := Lib.hid d0
        have D1 := Lib.hid d1
        clear d0 d1
        have hj1 : (0 : Int) ≤ ((j + 1 : Nat) : Int) := by omega
        refine wp_region_up W.heap.size 6 [(true, 0), (true, 1), (true, 2), (true, 3), (true, 4), (true, 5)] (by kernel_rfl) (by kernel_rfl) (fun _ _ d _ _ h => by cases d <;> exact h) ?_
        have hb : Below W.heap.size W W.drew := (Below.refl _ _).drew
        iterate 6
          refine wpS_takeL rfl rfl ?_
          go_big_quiet_step (rfl)
          refine wpQuiet_nil ?_
        refine wpS_nil ?_
        simp only [List.drop_succ_cons, List.drop_zero]
        have d0 := D0.out
        have d1 := D1.out
        go_wp2
        simp [bodyPost, results, Try.results80, go_sem, d0, d1]
        have hbl : Below w.heap.size w ((W.setCell ⟨w.heap.size + 1, 0, none⟩ (.bool neg)).setCell ⟨w.heap.size + 1, 1, none⟩ (.slice (some ⟨b, 0, none⟩) (j + 1) cap)).drew := by
          refine (Below.setCell (Below.setCell hb0 ?_ _) ?_ _).drew <;> exact Nat.le_succ _
        have hlen : (ds.take (j + 1)).length = j + 1 := by rw [List.length_take]; have := JA.out; omega
        refine ⟨_, rfl, ⟨neg, some ⟨b, 0, none⟩, b, cap, ds.take (j + 1), by rw [hlen], ?_, HD.out.take _, .inr ?_, fun h => ?_, by rw [hd.out], ?_⟩, hbl⟩
        · exact (HS.out.of hbl).cut JA.out
        · rw [hlen]
          have := HX0.out
          rw [HX.out] at this
          simpa [List.getElem?_take] using this
        · rw [h] at hlen; simp at hlen
        · rw [hlen]; have := HL.out; have := JA.out; omega
end Go.Proofs.Ytlcbomjdbdgbmaa
/- The walk of gromaref01's more. Conditions: fewer than 2^29 digits. -/
namespace Go.Proofs.Ytlcbomjdbdgbmaa
open Go.RowKit

theorem info_int : (Try.prog.info? 3).map (fun i => (i.zero, i.size, i.bytes)) = some (some (.int .i64 0), 1, 8) := by kernel_rfl

/-- the digits as Go values -/
def dg (ds : List Int) : List Value := ds.map (Value.int .i64)
theorem dg_len (ds : List Int) : (dg ds).length = ds.length := List.length_map _
theorem dg_snoc (ds : List Int) (d : Int) : dg (ds ++ [d]) = dg ds ++ [.int .i64 d] := by unfold dg; rw [List.map_append]; rfl

theorem own_sl {w : World} {base n : Nat} {v : Value} {ds : List Int} (h : w.ownsRow base 3 1 v n (dg ds)) (hn : ds.length = n) (hl : n < 1073741824) :
    ∃ ao b cap, v = .slice ao ds.length cap ∧ Sl w ao b cap ds := by
  subst hn
  rcases h.2 with ⟨h1, h2⟩ | ⟨g, cap, cur, h1, h2, h3, h4, h5, h6, h7⟩
  · have : ds = [] := List.length_eq_zero_iff.1 h2
    subst this
    exact ⟨none, 0, 0, h1, ⟨fun h => absurd h (Nat.lt_irrefl 0), fun _ => rfl, Nat.le_refl _, by decide, by decide, fun i hi => absurd hi (Nat.not_lt_zero i), fun h => absurd h (Nat.lt_irrefl 0)⟩⟩
  · refine ⟨some ⟨g, 0, none⟩, g, cap, h1, ⟨fun _ => rfl, fun h => (by cases h), h4, hl, by unfold maxLen at h5; omega, fun i hi => ?_, fun _ => (Array.getElem?_eq_some_iff.1 h3).1⟩⟩
    subst h1
    rw [World.ownsRow.cellAt h i (by omega)]
    unfold dg
    simp [hi]

theorem dval_take_succ (ds : List Int) (k : Nat) : dval (ds.take (k + 1)) = dval (ds.take k) + P15 k * ds.getD k 0 := by
  rcases Nat.lt_or_ge k ds.length with h | h
  · rw [List.take_succ_eq_append_getElem h, dval_append, List.length_take, Nat.min_eq_left (by omega), getD_in' h]
    simp [dval]
  · rw [List.take_of_length_le (by omega), List.take_of_length_le h, getD_out h]; simp

/-- one round of more -/
theorem more_step {xs ys ds : List Int} {k : Nat} {cv x y : Int} (hx : x = xs.getD k 0) (hy : y = ys.getD k 0) (b1 : 0 ≤ x ∧ x < 32768) (b2 : 0 ≤ y ∧ y < 32768) (b3 : 0 ≤ cv ∧ cv ≤ 1)
    (h : DigOk ds ∧ ds.length = k ∧ dval ds + P15 k * cv = dval (xs.take k) + dval (ys.take k)) :
    (0 ≤ (cv + x + y) / 32768 ∧ (cv + x + y) / 32768 ≤ 1) ∧ DigOk (ds ++ [(cv + x + y) % 32768]) ∧ (ds ++ [(cv + x + y) % 32768]).length = k + 1 ∧
      dval (ds ++ [(cv + x + y) % 32768]) + P15 (k + 1) * ((cv + x + y) / 32768) = dval (xs.take (k + 1)) + dval (ys.take (k + 1)) := by
  obtain ⟨h1, h2, h3⟩ := h
  refine ⟨by omega, h1.append (DigOk.one (by omega)), by rw [List.length_append, h2]; rfl, ?_⟩
  rw [dval_append, h2, dval_take_succ, dval_take_succ, ← hx, ← hy, P15_succ]
  have e : P15 k * dval [(cv + x + y) % 32768] + 32768 * P15 k * ((cv + x + y) / 32768) = P15 k * (cv + x + y) := by
    have : dval [(cv + x + y) % 32768] = (cv + x + y) % 32768 := by simp [dval]
    rw [this, Int.mul_comm 32768 (P15 k), Int.mul_assoc, ← Int.mul_add, Int.emod_add_mul_ediv]
  rw [Int.mul_add, Int.mul_add] at e
  omega

/-- some slice of digits comes back -/
def GivesDig (w : World) (n : Int) (L : Nat) (e : Ending) (w' : World) : Prop :=
  ∃ (ao : Option Addr) (b cap : Nat) (ds : List Int), e = .returned (.slice ao ds.length cap) ∧ Sl w' ao b cap ds ∧ DigOk ds ∧ dval ds = n ∧ ds.length = L ∧ Below w.heap.size w w'

set_option maxRecDepth 100000 in
set_option maxHeartbeats 4000000 in
theorem more_any (ao bo : Option Addr) (b b' cap cap' : Nat) (xs ys : List Int) (w : World) (ha : Sl w ao b cap xs) (hb : Sl w bo b' cap' ys) (hl1 : xs.length < 536870912) (hl2 : ys.length < 536870912) (da : DigOk xs) (db : DigOk ys) :
    Calls Try.prog 81 #[.slice ao xs.length cap, .slice bo ys.length cap'] w (GivesDig w (dval xs + dval ys) (max xs.length ys.length + 1)) := by
  obtain ⟨i0, hi, hz0, hz1, hz2⟩ := info_parts info_int
  have HA := Lib.hid ha
  have HB := Lib.hid hb
  have D := Lib.hid (And.intro da db)
  have la := hl1
  have lb := hl2
  clear ha hb da db hl1 hl2
  obtain ⟨N, hN⟩ : ∃ N, N = xs.length := ⟨_, rfl⟩
  obtain ⟨M, hM⟩ : ∃ M, M = ys.length := ⟨_, rfl⟩
  have HN := Lib.hid hN
  have HM := Lib.hid hM
  rw [← hN] at la ⊢
  rw [← hM] at lb ⊢
  clear hN hM
  go_enter Try.func81, Try.ntmps81
  go_wp2_with fail
  go_loopw [5, 6, 7] (fun out c i wr => ∃ (k : Nat) (cv : Int) (ds : List Int), (k ≤ N ∨ k ≤ M) ∧ i = .int .i64 k ∧ c = .int .i64 cv ∧ 0 ≤ cv ∧ cv ≤ 1 ∧ wr.ownsRow w.heap.size 3 1 out k (dg ds) ∧
      Hid (DigOk ds ∧ ds.length = k ∧ dval ds + P15 k * cv = dval (xs.take k) + dval (ys.take k)) ∧ Below w.heap.size w wr) (fun _ _ i _ => N + M - (intOf i).toNat)
  case atStart => exact ⟨0, 0, [], .inl (Nat.zero_le _), rfl, rfl, by decide, by decide, World.ownsRow_nil _ _ _ _, ⟨DigOk.nil, rfl, by simp [dval]⟩, Below.refl _ _⟩
  case round =>
    rename_i wr
    obtain ⟨k, cv, ds, hk, rfl, rfl, cv0, cv1, hown, hds, hbl⟩ := hrel
    by_cases h1 : k < N
    · by_cases h2 : k < M
      · have ja : k < xs.length := by rw [← HN.out]; exact h1
        obtain rfl := HA.out.ptr (by omega)
        have e0 : wr.cell? ⟨b, k, none⟩ = some (.int .i64 (xs.getD k 0)) := by rw [hbl.cell (p := ⟨b, k, none⟩) (HA.out.blk (by omega))]; exact HA.out.cell k ja
        clear ja
        have jb : k < ys.length := by rw [← HM.out]; exact h2
        obtain rfl := HB.out.ptr (by omega)
        have e1 : wr.cell? ⟨b', k, none⟩ = some (.int .i64 (ys.getD k 0)) := by rw [hbl.cell (p := ⟨b', k, none⟩) (HB.out.blk (by omega))]; exact HB.out.cell k jb
        clear jb
        obtain ⟨x0, x1⟩ := D.out.1.get k
        obtain ⟨y0, y1⟩ := D.out.2.get k
        obtain ⟨x, hx⟩ : ∃ x, x = xs.getD k 0 := ⟨_, rfl⟩
        obtain ⟨y, hy⟩ : ∃ y, y = ys.getD k 0 := ⟨_, rfl⟩
        rw [← hx] at x0 x1 e0
        rw [← hy] at y0 y1 e1
        have hst := more_step hx hy ⟨x0, x1⟩ ⟨y0, y1⟩ ⟨cv0, cv1⟩ hds.out
        have ST := Lib.hid hst
        have HX := Lib.hid hx
        have HY := Lib.hid hy
        clear hst hx hy hds
        go_wp2_with (at_builtin; refine wpList_append_own _ rfl _ _ 26 rfl w.heap.size 3 i0 (.int .i64 0) 1 8 Try.underlying26 hi hz0 hz1 hz2 rfl (by decide) _ _ _ rfl (hown.alloc _) ⟨wr.heap.size, 0, none⟩ 1 1 [.int .i64 ((cv + x + y) % 32768)] rfl rfl ?c1 ?c2 ?c3 ?c4 ?c5 ?_)
        case c1 =>
          intro j u hj
          match j, hj with
          | 0, hj => simp at hj; subst hj; simp [Addr.add]
        case c2 => intro u hu; simp at hu; subst hu; rfl
        case c3 => unfold maxLen; omega
        case c4 => omega
        case c5 => have := hbl.size; simp; omega
        intro v' w1 hown' hgrow _
        have hb1 : Below w.heap.size w w1 := (hbl.alloc hbl.size _).grown hgrow (by have := hbl.size; simp; omega) (fun k hk => (hown.lt k hk).1)
        rw [← dg_snoc] at hown'
        clear hown hbl hgrow
        go_wp2
        go_roundw
        case rel => exact ⟨k + 1, (cv + x + y) / 32768, _, by omega, by go_num, rfl, ST.out.1.1, ST.out.1.2, hown', ST.out.2, hb1⟩
        case measure => simp [intOf]; omega
      · have ja : k < xs.length := by rw [← HN.out]; exact h1
        obtain rfl := HA.out.ptr (by omega)
        have e0 : wr.cell? ⟨b, k, none⟩ = some (.int .i64 (xs.getD k 0)) := by rw [hbl.cell (p := ⟨b, k, none⟩) (HA.out.blk (by omega))]; exact HA.out.cell k ja
        clear ja
        obtain ⟨x0, x1⟩ := D.out.1.get k
        obtain ⟨y0, y1⟩ := D.out.2.get k
        obtain ⟨x, hx⟩ : ∃ x, x = xs.getD k 0 := ⟨_, rfl⟩
        obtain ⟨y, hy⟩ : ∃ y, y = ys.getD k 0 := ⟨_, rfl⟩
        rw [← hx] at x0 x1 e0
        rw [← hy] at y0 y1
        have hst := more_step hx hy ⟨x0, x1⟩ ⟨y0, y1⟩ ⟨cv0, cv1⟩ hds.out
        have hy0 : y = 0 := hy.trans (getD_out (by rw [← HM.out]; omega))
        subst hy0
        simp only [Int.add_zero] at hst
        have ST := Lib.hid hst
        have HX := Lib.hid hx
        have HY := Lib.hid hy
        clear hst hx hy hds
        go_wp2_with (at_builtin; refine wpList_append_own _ rfl _ _ 26 rfl w.heap.size 3 i0 (.int .i64 0) 1 8 Try.underlying26 hi hz0 hz1 hz2 rfl (by decide) _ _ _ rfl (hown.alloc _) ⟨wr.heap.size, 0, none⟩ 1 1 [.int .i64 ((cv + x) % 32768)] rfl rfl ?c1 ?c2 ?c3 ?c4 ?c5 ?_)
        case c1 =>
          intro j u hj
          match j, hj with
          | 0, hj => simp at hj; subst hj; simp [Addr.add]
        case c2 => intro u hu; simp at hu; subst hu; rfl
        case c3 => unfold maxLen; omega
        case c4 => omega
        case c5 => have := hbl.size; simp; omega
        intro v' w1 hown' hgrow _
        have hb1 : Below w.heap.size w w1 := (hbl.alloc hbl.size _).grown hgrow (by have := hbl.size; simp; omega) (fun k hk => (hown.lt k hk).1)
        rw [← dg_snoc] at hown'
        clear hown hbl hgrow
        go_wp2
        go_roundw
        case rel => exact ⟨k + 1, (cv + x) / 32768, _, by omega, by go_num, rfl, ST.out.1.1, ST.out.1.2, hown', ST.out.2, hb1⟩
        case measure => simp [intOf]; omega
    · by_cases h2 : k < M
      · have jb : k < ys.length := by rw [← HM.out]; exact h2
        obtain rfl := HB.out.ptr (by omega)
        have e1 : wr.cell? ⟨b', k, none⟩ = some (.int .i64 (ys.getD k 0)) := by rw [hbl.cell (p := ⟨b', k, none⟩) (HB.out.blk (by omega))]; exact HB.out.cell k jb
        clear jb
        obtain ⟨x0, x1⟩ := D.out.1.get k
        obtain ⟨y0, y1⟩ := D.out.2.get k
        obtain ⟨x, hx⟩ : ∃ x, x = xs.getD k 0 := ⟨_, rfl⟩
        obtain ⟨y, hy⟩ : ∃ y, y = ys.getD k 0 := ⟨_, rfl⟩
        rw [← hx] at x0 x1
        rw [← hy] at y0 y1 e1
        have hst := more_step hx hy ⟨x0, x1⟩ ⟨y0, y1⟩ ⟨cv0, cv1⟩ hds.out
        have hx0 : x = 0 := hx.trans (getD_out (by rw [← HN.out]; omega))
        subst hx0
        rw [Int.add_zero] at hst
        have ST := Lib.hid hst
        have HX := Lib.hid hx
        have HY := Lib.hid hy
        clear hst hx hy hds
        go_wp2_with (at_builtin; refine wpList_append_own _ rfl _ _ 26 rfl w.heap.size 3 i0 (.int .i64 0) 1 8 Try.underlying26 hi hz0 hz1 hz2 rfl (by decide) _ _ _ rfl (hown.alloc _) ⟨wr.heap.size, 0, none⟩ 1 1 [.int .i64 ((cv + y) % 32768)] rfl rfl ?c1 ?c2 ?c3 ?c4 ?c5 ?_)
        case c1 =>
          intro j u hj
          match j, hj with
          | 0, hj => simp at hj; subst hj; simp [Addr.add]
        case c2 => intro u hu; simp at hu; subst hu; rfl
        case c3 => unfold maxLen; omega
        case c4 => omega
        case c5 => have := hbl.size; simp; omega
        intro v' w1 hown' hgrow _
        have hb1 : Below w.heap.size w w1 := (hbl.alloc hbl.size _).grown hgrow (by have := hbl.size; simp; omega) (fun k hk => (hown.lt k hk).1)
        rw [← dg_snoc] at hown'
        clear hown hbl hgrow
        go_wp2
        go_roundw
        case rel => exact ⟨k + 1, (cv + y) / 32768, _, by omega, by go_num, rfl, ST.out.1.1, ST.out.1.2, hown', ST.out.2, hb1⟩
        case measure => simp [intOf]; omega
      · have ST := Lib.hid hds.out
        clear hds
        go_wp2_with (at_builtin; refine wpList_append_own _ rfl _ _ 26 rfl w.heap.size 3 i0 (.int .i64 0) 1 8 Try.underlying26 hi hz0 hz1 hz2 rfl (by decide) _ _ _ rfl (hown.alloc _) ⟨wr.heap.size, 0, none⟩ 1 1 [.int .i64 cv] rfl rfl ?c1 ?c2 ?c3 ?c4 ?c5 ?_)
        case c1 =>
          intro j u hj
          match j, hj with
          | 0, hj => simp at hj; subst hj; simp [Addr.add]
        case c2 => intro u hu; simp at hu; subst hu; rfl
        case c3 => unfold maxLen; omega
        case c4 => omega
        case c5 => have := hbl.size; simp; omega
        intro v' w1 hown' hgrow _
        have hb1 : Below w.heap.size w w1 := (hbl.alloc hbl.size _).grown hgrow (by have := hbl.size; simp; omega) (fun k hk => (hown.lt k hk).1)
        rw [← dg_snoc] at hown'
        clear hown hbl hgrow
        go_wp2
        go_ret
        obtain ⟨g1, g2, g3⟩ := ST.out
        have gl : (ds ++ [cv]).length = k + 1 := by rw [List.length_append, g2]; rfl
        obtain ⟨ao2, b2, cap2, hv, hsl⟩ := own_sl hown' gl (by omega)
        refine ⟨ao2, b2, cap2, ds ++ [cv], ?_, hsl, g1.append (DigOk.one ⟨cv0, by omega⟩), ?_, ?_, hb1⟩
        · rw [← hv]; rfl
        · rw [dval_append, g2]
          have : dval [cv] = cv := by simp [dval]
          rw [this, g3, List.take_of_length_le (by rw [← HN.out]; omega), List.take_of_length_le (by rw [← HM.out]; omega)]
        · rw [gl]; omega
end Go.Proofs.Ytlcbomjdbdgbmaa
/- The walk of gromaref01's less. Conditions: fewer than 2^29 digits, the first size not the less. -/
namespace Go.Proofs.Ytlcbomjdbdgbmaa
open Go.RowKit

theorem one_new (w : World) (v : Value) (t : TypeId) : ∀ j u, [v][j]? = some u → (w.alloc (.cells #[v] t)).cell? ((⟨w.heap.size, 0, none⟩ : Addr).add j) = some u := by
  intro j u hj
  match j, hj with
  | 0, hj => simp at hj; subst hj; simp [Addr.add]
theorem one_cell (n : Int) : ∀ u ∈ [Value.int .i64 n], u.oneCell' = true := by intro u hu; simp at hu; subst hu; rfl

/-- one round of less -/
theorem less_step {xs ys ds : List Int} {k : Nat} {bw x y d c : Int} (hx : x = xs.getD k 0) (hy : y = ys.getD k 0) (hd : 0 ≤ d ∧ d < 32768) (hc : d - 32768 * c = x - bw - y)
    (h : DigOk ds ∧ ds.length = k ∧ dval ds - P15 k * bw = dval (xs.take k) - dval (ys.take k)) :
    DigOk (ds ++ [d]) ∧ (ds ++ [d]).length = k + 1 ∧ dval (ds ++ [d]) - P15 (k + 1) * c = dval (xs.take (k + 1)) - dval (ys.take (k + 1)) := by
  obtain ⟨h1, h2, h3⟩ := h
  refine ⟨h1.append (DigOk.one hd), by rw [List.length_append, h2]; rfl, ?_⟩
  rw [dval_append, h2, dval_take_succ, dval_take_succ, ← hx, ← hy, P15_succ]
  have e : P15 k * dval [d] - 32768 * P15 k * c = P15 k * (x - bw - y) := by
    have : dval [d] = d := by simp [dval]
    rw [this, ← hc, Int.mul_comm 32768 (P15 k), Int.mul_assoc, Int.mul_sub]
  rw [Int.mul_sub, Int.mul_sub] at e
  omega

set_option maxRecDepth 100000 in
set_option maxHeartbeats 4000000 in
theorem less_any (ao bo : Option Addr) (b b' cap cap' : Nat) (xs ys : List Int) (w : World) (ha : Sl w ao b cap xs) (hb : Sl w bo b' cap' ys) (hl1 : xs.length < 536870912) (da : DigOk xs) (db : DigOk ys) (hle : ys.length ≤ xs.length) (hge : dval ys ≤ dval xs) :
    Calls Try.prog 83 #[.slice ao xs.length cap, .slice bo ys.length cap'] w (GivesDig w (dval xs - dval ys) xs.length) := by
  obtain ⟨i0, hi, hz0, hz1, hz2⟩ := info_parts info_int
  have HA := Lib.hid ha
  have HB := Lib.hid hb
  have D := Lib.hid (And.intro da db)
  have G := Lib.hid hge
  have la := hl1
  clear ha hb da db hl1 hge
  obtain ⟨N, hN⟩ : ∃ N, N = xs.length := ⟨_, rfl⟩
  obtain ⟨M, hM⟩ : ∃ M, M = ys.length := ⟨_, rfl⟩
  have HN := Lib.hid hN
  have HM := Lib.hid hM
  rw [← hN] at la hle ⊢
  rw [← hM] at hle ⊢
  clear hN hM
  go_enter Try.func83, Try.ntmps83
  go_wp2_with fail
  go_loopw [5, 6, 7] (fun out c i wr => ∃ (k : Nat) (cv : Int) (ds : List Int), k ≤ N ∧ i = .int .i64 k ∧ c = .int .i64 cv ∧ 0 ≤ cv ∧ cv ≤ 1 ∧ wr.ownsRow w.heap.size 3 1 out k (dg ds) ∧
      Hid (DigOk ds ∧ ds.length = k ∧ dval ds - P15 k * cv = dval (xs.take k) - dval (ys.take k)) ∧ Below w.heap.size w wr) (fun _ _ i _ => N - (intOf i).toNat)
  case atStart => exact ⟨0, 0, [], Nat.zero_le _, rfl, rfl, by decide, by decide, World.ownsRow_nil _ _ _ _, ⟨DigOk.nil, rfl, by simp [dval]⟩, Below.refl _ _⟩
  case round =>
    rename_i wr
    obtain ⟨k, cv, ds, hk, rfl, rfl, cv0, cv1, hown, hds, hbl⟩ := hrel
    by_cases h1 : k < N
    · by_cases h2 : k < M
      · have ja : k < xs.length := by rw [← HN.out]; exact h1
        obtain rfl := HA.out.ptr (by omega)
        have e0 : wr.cell? ⟨b, k, none⟩ = some (.int .i64 (xs.getD k 0)) := by rw [hbl.cell (p := ⟨b, k, none⟩) (HA.out.blk (by omega))]; exact HA.out.cell k ja
        clear ja
        have jb : k < ys.length := by rw [← HM.out]; exact h2
        obtain rfl := HB.out.ptr (by omega)
        have e1 : wr.cell? ⟨b', k, none⟩ = some (.int .i64 (ys.getD k 0)) := by rw [hbl.cell (p := ⟨b', k, none⟩) (HB.out.blk (by omega))]; exact HB.out.cell k jb
        clear jb
        obtain ⟨x0, x1⟩ := D.out.1.get k
        obtain ⟨y0, y1⟩ := D.out.2.get k
        obtain ⟨x, hx⟩ : ∃ x, x = xs.getD k 0 := ⟨_, rfl⟩
        obtain ⟨y, hy⟩ : ∃ y, y = ys.getD k 0 := ⟨_, rfl⟩
        rw [← hx] at x0 x1 e0
        rw [← hy] at y0 y1 e1
        by_cases hneg : x - cv - y < 0
        · have hst := less_step (d := x - cv - y + 32768) (c := 1) hx hy (by omega) (by omega) hds.out
          have ST := Lib.hid hst
          have HX := Lib.hid hx
          have HY := Lib.hid hy
          clear hst hx hy hds
          go_wp2_with (at_builtin; refine wpList_append_own _ rfl _ _ 26 rfl w.heap.size 3 i0 (.int .i64 0) 1 8 Try.underlying26 hi hz0 hz1 hz2 rfl (by decide) _ _ _ rfl (hown.alloc _) ⟨wr.heap.size, 0, none⟩ 1 1 [.int .i64 (x - cv - y + 32768)] rfl rfl (one_new _ _ _) (one_cell _) (by unfold maxLen; omega) (by omega) (by have := hbl.size; simp; omega) ?_; intro v' w1 hown' hgrow _)
          have hb1 : Below w.heap.size w w1 := (hbl.alloc hbl.size _).grown hgrow (by have := hbl.size; simp; omega) (fun k hk => (hown.lt k hk).1)
          rw [← dg_snoc] at hown'
          clear hown hbl hgrow
          go_wp2
          go_roundw
          case rel => exact ⟨k + 1, 1, _, by omega, by go_num, rfl, by decide, by decide, hown', ST.out, hb1⟩
          case measure => simp [intOf]; omega
        · have hst := less_step (d := x - cv - y) (c := 0) hx hy (by omega) (by omega) hds.out
          have ST := Lib.hid hst
          have HX := Lib.hid hx
          have HY := Lib.hid hy
          clear hst hx hy hds
          go_wp2_with (at_builtin; refine wpList_append_own _ rfl _ _ 26 rfl w.heap.size 3 i0 (.int .i64 0) 1 8 Try.underlying26 hi hz0 hz1 hz2 rfl (by decide) _ _ _ rfl (hown.alloc _) ⟨wr.heap.size, 0, none⟩ 1 1 [.int .i64 (x - cv - y)] rfl rfl (one_new _ _ _) (one_cell _) (by unfold maxLen; omega) (by omega) (by have := hbl.size; simp; omega) ?_; intro v' w1 hown' hgrow _)
          have hb1 : Below w.heap.size w w1 := (hbl.alloc hbl.size _).grown hgrow (by have := hbl.size; simp; omega) (fun k hk => (hown.lt k hk).1)
          rw [← dg_snoc] at hown'
          clear hown hbl hgrow
          go_wp2
          go_roundw
          case rel => exact ⟨k + 1, 0, _, by omega, by go_num, rfl, by decide, by decide, hown', ST.out, hb1⟩
          case measure => simp [intOf]; omega
      · have ja : k < xs.length := by rw [← HN.out]; exact h1
        obtain rfl := HA.out.ptr (by omega)
        have e0 : wr.cell? ⟨b, k, none⟩ = some (.int .i64 (xs.getD k 0)) := by rw [hbl.cell (p := ⟨b, k, none⟩) (HA.out.blk (by omega))]; exact HA.out.cell k ja
        clear ja
        obtain ⟨x0, x1⟩ := D.out.1.get k
        obtain ⟨y0, y1⟩ := D.out.2.get k
        obtain ⟨x, hx⟩ : ∃ x, x = xs.getD k 0 := ⟨_, rfl⟩
        obtain ⟨y, hy⟩ : ∃ y, y = ys.getD k 0 := ⟨_, rfl⟩
        rw [← hx] at x0 x1 e0
        rw [← hy] at y0 y1
        have hy0 : y = 0 := hy.trans (getD_out (by rw [← HM.out]; omega))
        subst hy0
        by_cases hneg : x - cv < 0
        · have hst := less_step (d := x - cv + 32768) (c := 1) hx hy (by omega) (by omega) hds.out
          have ST := Lib.hid hst
          have HX := Lib.hid hx
          have HY := Lib.hid hy
          clear hst hx hy hds
          go_wp2_with (at_builtin; refine wpList_append_own _ rfl _ _ 26 rfl w.heap.size 3 i0 (.int .i64 0) 1 8 Try.underlying26 hi hz0 hz1 hz2 rfl (by decide) _ _ _ rfl (hown.alloc _) ⟨wr.heap.size, 0, none⟩ 1 1 [.int .i64 (x - cv + 32768)] rfl rfl (one_new _ _ _) (one_cell _) (by unfold maxLen; omega) (by omega) (by have := hbl.size; simp; omega) ?_; intro v' w1 hown' hgrow _)
          have hb1 : Below w.heap.size w w1 := (hbl.alloc hbl.size _).grown hgrow (by have := hbl.size; simp; omega) (fun k hk => (hown.lt k hk).1)
          rw [← dg_snoc] at hown'
          clear hown hbl hgrow
          go_wp2
          go_roundw
          case rel => exact ⟨k + 1, 1, _, by omega, by go_num, rfl, by decide, by decide, hown', ST.out, hb1⟩
          case measure => simp [intOf]; omega
        · have hst := less_step (d := x - cv) (c := 0) hx hy (by omega) (by omega) hds.out
          have ST := Lib.hid hst
          have HX := Lib.hid hx
          have HY := Lib.hid hy
          clear hst hx hy hds
          go_wp2_with (at_builtin; refine wpList_append_own _ rfl _ _ 26 rfl w.heap.size 3 i0 (.int .i64 0) 1 8 Try.underlying26 hi hz0 hz1 hz2 rfl (by decide) _ _ _ rfl (hown.alloc _) ⟨wr.heap.size, 0, none⟩ 1 1 [.int .i64 (x - cv)] rfl rfl (one_new _ _ _) (one_cell _) (by unfold maxLen; omega) (by omega) (by have := hbl.size; simp; omega) ?_; intro v' w1 hown' hgrow _)
          have hb1 : Below w.heap.size w w1 := (hbl.alloc hbl.size _).grown hgrow (by have := hbl.size; simp; omega) (fun k hk => (hown.lt k hk).1)
          rw [← dg_snoc] at hown'
          clear hown hbl hgrow
          go_wp2
          go_roundw
          case rel => exact ⟨k + 1, 0, _, by omega, by go_num, rfl, by decide, by decide, hown', ST.out, hb1⟩
          case measure => simp [intOf]; omega
    · have ST := Lib.hid hds.out
      clear hds
      go_wp2
      go_ret
      obtain ⟨g1, g2, g3⟩ := ST.out
      obtain ⟨ao2, b2, cap2, hv, hsl⟩ := own_sl hown g2 (by omega)
      have hkN : k = xs.length := by rw [← HN.out]; omega
      rw [List.take_of_length_le (by omega), List.take_of_length_le (by rw [← HM.out]; omega)] at g3
      have hbd := dval_bd g1
      rw [g2] at hbd
      have hge := G.out
      have hc : cv = 0 := by
        rcases (show cv = 0 ∨ cv = 1 by omega) with h | h
        · exact h
        · rw [h, Int.mul_one] at g3; omega
      rw [hc, Int.mul_zero, Int.sub_zero] at g3
      exact ⟨ao2, b2, cap2, ds, by rw [← hv]; rfl, hsl, g1, g3, by omega, hbl⟩
end Go.Proofs.Ytlcbomjdbdgbmaa
