/- My texts Bs4, Bs5, Bs6, Bs7, AwB, Bs8, AwC, AwLp, RwB, Cr1, joined: what the last one needs of them. Conditions: as each lemma says. -/
import Derived.Test.YtlcbomjdbdgbmaaSPc1
import Derived.KernelRfl
import Derived.StillTail
import Derived.OrdersHeld
import Derived.Deep.Quiet
import Derived.Below
import Derived.WalkKit
import Derived.Test.YtlcbomjdbdgbmaaProg
import Derived.WalkSpells
import Derived.StillTactics
import Derived.Laws.Pointers
import Derived.Deep.RegionHeld3
import Derived.RowKit3
import Derived.Deep.QuietTactic
import Derived.BigQuiet
import Derived.BigRegion
import Derived.Lib.Hide
import Derived.WalkSmall
import Derived.Laws.BitsAllLaws
import Derived.IntWalk
import Derived.Deep.OwnRows
import Derived.Deep.LoopGhost
import Derived.Shelf.Bits.Mul64
import Derived.ProofKit
import Derived.OpenShut
import Derived.ShutString
import Derived.ChangeOld
import Derived.Lib.SmallJoins
import Derived.Laws.IdiomArrays
import Derived.RowKit
import Derived.Deep.WholeRow
import Derived.Laws.Rows
namespace Go.Proofs.Ytlcbomjdbdgbmaa
open Go.RowKit

set_option maxRecDepth 100000 in
set_option maxHeartbeats 1000000 in
theorem Div_0 (x y : Int) (w : World) (hy : eq4 (wd0 y) (wd1 y) (wd2 y) (wd3 y) 0 0 0 0 = true) :
    Calls Try.prog 109 #[wI x, wI y] w fun e w' => e = .returned (.tuple #[wI 0, wI 0, .bool false]) ∧ Below w.heap.size w w' := by
  go_enter Try.func109, Try.ntmps109
  go_wp2
  simp [bodyPost, results, Try.results109, go_sem, wd0_0, wd1_0, wd2_0, wd3_0]
  exact (((Below.refl _ _).alloc (Nat.le_refl _) _).alloc (by simp) _).alloc (by simp; omega) _ |>.alloc (by simp; omega) _


/-- where Div stands -/
structure DvAt (w : World) (x y n m : Int) (b1 b2 : Nat) (wr : World) : Prop where
  v0 : Var wr w.heap.size x
  v1 : Var wr (w.heap.size + 1) y
  v2 : Var wr (w.heap.size + 1 + 1) 0
  v3 : Var wr (w.heap.size + 1 + 1 + 1) 0
  vn : Var wr b1 n
  vm : Var wr b2 m
  hne : b1 ≠ b2
  lb1 : w.heap.size + 1 + 1 + 1 < b1
  lb2 : w.heap.size + 1 + 1 + 1 < b2
  below : Below w.heap.size w wr
theorem DvAt.of {w : World} {x y n m : Int} {b1 b2 : Nat} {wr w' : World} (h : DvAt w x y n m b1 b2 wr) (hn : Below wr.heap.size wr w') : DvAt w x y n m b1 b2 w' :=
  ⟨h.v0.of hn, h.v1.of hn, h.v2.of hn, h.v3.of hn, h.vn.of hn, h.vm.of hn, h.hne, h.lb1, h.lb2, h.below.trans (hn.mono h.below.size)⟩
theorem DvAt.setn {w : World} {x y n m : Int} {b1 b2 : Nat} {wr : World} (h : DvAt w x y n m b1 b2 wr) (z : Int) : DvAt w x y z m b1 b2
    ((((wr.setCell ⟨b1, 0, none⟩ (.int .u64 (wd0 z))).setCell ⟨b1, 1, none⟩ (.int .u64 (wd1 z))).setCell ⟨b1, 2, none⟩ (.int .u64 (wd2 z))).setCell ⟨b1, 3, none⟩ (.int .u64 (wd3 z))) := by
  have hl := h.lb1
  exact ⟨h.v0.set4 (by omega) _ _ _ _, h.v1.set4 (by omega) _ _ _ _, h.v2.set4 (by omega) _ _ _ _, h.v3.set4 (by omega) _ _ _ _, Var.put4 h.vn z, h.vm.set4 h.hne.symm _ _ _ _, h.hne, h.lb1, h.lb2, below_set4 h.below (by omega) _ _ _ _⟩
theorem DvAt.setm {w : World} {x y n m : Int} {b1 b2 : Nat} {wr : World} (h : DvAt w x y n m b1 b2 wr) (z : Int) : DvAt w x y n z b1 b2
    ((((wr.setCell ⟨b2, 0, none⟩ (.int .u64 (wd0 z))).setCell ⟨b2, 1, none⟩ (.int .u64 (wd1 z))).setCell ⟨b2, 2, none⟩ (.int .u64 (wd2 z))).setCell ⟨b2, 3, none⟩ (.int .u64 (wd3 z))) := by
  have hl := h.lb2
  exact ⟨h.v0.set4 (by omega) _ _ _ _, h.v1.set4 (by omega) _ _ _ _, h.v2.set4 (by omega) _ _ _ _, h.v3.set4 (by omega) _ _ _ _, h.vn.set4 h.hne _ _ _ _, Var.put4 h.vm z, h.hne, h.lb1, h.lb2, below_set4 h.below (by omega) _ _ _ _⟩

/-- where Div stands behind the quotient's sign -/
structure DwAt (w : World) (x y q m : Int) (b1 b2 : Nat) (wr : World) : Prop where
  v1 : Var wr (w.heap.size + 1) y
  v2 : Var wr (w.heap.size + 1 + 1) q
  v3 : Var wr (w.heap.size + 1 + 1 + 1) 0
  vm : Var wr b2 m
  lb2 : w.heap.size + 1 + 1 + 1 < b2
  below : Below w.heap.size w wr
theorem DwAt.of {w : World} {x y n m : Int} {b1 b2 : Nat} {wr w' : World} (h : DwAt w x y n m b1 b2 wr) (hn : Below wr.heap.size wr w') : DwAt w x y n m b1 b2 w' :=
  ⟨h.v1.of hn, h.v2.of hn, h.v3.of hn, h.vm.of hn, h.lb2, h.below.trans (hn.mono h.below.size)⟩
theorem DvAt.out2 {w : World} {x y n m : Int} {b1 b2 : Nat} {wr : World} (h : DvAt w x y n m b1 b2 wr) (z : Int) : DwAt w x y z m b1 b2
    ((((wr.setCell ⟨w.heap.size + 1 + 1, 0, none⟩ (.int .u64 (wd0 z))).setCell ⟨w.heap.size + 1 + 1, 1, none⟩ (.int .u64 (wd1 z))).setCell ⟨w.heap.size + 1 + 1, 2, none⟩ (.int .u64 (wd2 z))).setCell ⟨w.heap.size + 1 + 1, 3, none⟩ (.int .u64 (wd3 z))) := by
  have hl := h.lb2
  exact ⟨h.v1.set4 (by omega) _ _ _ _, Var.put4 h.v2 z, h.v3.set4 (by omega) _ _ _ _, h.vm.set4 (by omega) _ _ _ _, h.lb2, below_set4 h.below (by omega) _ _ _ _⟩
theorem DwAt.out3 {w : World} {x y n m : Int} {b1 b2 : Nat} {wr : World} (h : DwAt w x y n m b1 b2 wr) (z : Int) :
    let w' := ((((wr.setCell ⟨w.heap.size + 1 + 1 + 1, 0, none⟩ (.int .u64 (wd0 z))).setCell ⟨w.heap.size + 1 + 1 + 1, 1, none⟩ (.int .u64 (wd1 z))).setCell ⟨w.heap.size + 1 + 1 + 1, 2, none⟩ (.int .u64 (wd2 z))).setCell ⟨w.heap.size + 1 + 1 + 1, 3, none⟩ (.int .u64 (wd3 z)))
    Var w' (w.heap.size + 1 + 1) n ∧ Var w' (w.heap.size + 1 + 1 + 1) z ∧ Below w.heap.size w w' :=
  ⟨h.v2.set4 (by omega) _ _ _ _, Var.put4 h.v3 z, below_set4 h.below (by omega) _ _ _ _⟩

theorem signed_is (s : Int) (b k : Bool) (w : World) (h : sgB s b = k) :
    Calls Try.prog 139 #[wI s, .bool b] w fun e w' => e = .returned (.tuple #[wI (bif k then sgV s b else 0), .bool k]) ∧ Below w.heap.size w w' := h ▸ signed_any s b w

set_option maxRecDepth 100000 in
set_option maxHeartbeats 4000000 in
/-- the part of Div behind the division -/
theorem Div_go (x y : Int) (w : World) (u zm sn : Bool) (hy : eq4 (wd0 y) (wd1 y) (wd2 y) (wd3 y) 0 0 0 0 = false) (hx1 : 0 ≤ sz x ∧ sz x < b256) (hy1 : 0 < sz y ∧ sz y < b256)
    (hu : (ng x == ng y) = !u) (hzm : eq4 (wd0 (sz x % sz y)) (wd1 (sz x % sz y)) (wd2 (sz x % sz y)) (wd3 (sz x % sz y)) 0 0 0 0 = zm) (hsn : sgB (dvN x y u zm) u = sn) :
    Calls Try.prog 109 #[wI x, wI y] w fun e w' => e = .returned (bif sn then .tuple #[wI (sgV (dvN x y u zm) u),
      wI (bif sgB (dvM x y u zm) (ng y) then sgV (dvM x y u zm) (ng y) else 0), .bool (sgB (dvM x y u zm) (ng y))] else .tuple #[wI 0, wI 0, .bool false]) ∧ Below w.heap.size w w' := by
  have HX := Lib.hid hx1
  have HY := Lib.hid hy1
  have HS := Lib.hid hsn
  clear hx1 hy1 hsn
  go_enter Try.func109, Try.ntmps109
  go_wp2_with fail
  refine name_world ?_
  intro W hW
  have v0 : Var W w.heap.size x := by rw [hW]; exact ((Blk.new _ _ _).alloc _).alloc _ |>.alloc _
  have v1 : Var W (w.heap.size + 1) y := by rw [hW]; exact ((Blk.new1 _ _ _ _).alloc _).alloc _
  have v2 : Var W (w.heap.size + 1 + 1) 0 := by rw [hW]; exact (Blk.new2 _ _ _ _ _).alloc _
  have v3 : Var W (w.heap.size + 1 + 1 + 1) 0 := by rw [hW]; exact Blk.new3 _ _ _ _ _ _
  have hb0 : Below w.heap.size w W := by rw [hW]; exact (((Below.refl _ _).alloc (Nat.le_refl _) _).alloc (by simp) _).alloc (by simp; omega) _ |>.alloc (by simp; omega) _
  clear hW hy
  have l0 := v0.lt
  have l1 := v1.lt
  have l3 := v3.lt
  have c0 := v0.c
  have c1 := v1.c
  have V0 := Lib.hid v0
  have V1 := Lib.hid v1
  have V2 := Lib.hid v2
  have V3 := Lib.hid v3
  have HU := Lib.hid hu
  have HZ := Lib.hid hzm
  clear v0 v1 v2 v3 hu hzm
  refine wp_region_FG2 10 8 9 [(0, 0), (0, 2), (1, 1), (1, 3), (1, 4), (0, 5), (0, 6), (2, 7)] [(3, 10), (3, 11)] (by kernel_rfl) (by kernel_rfl) (fun _ _ d _ _ => by cases d <;> exact Iff.rfl) rfl rfl rfl allocI rfl rfl rfl allocI rfl ?_
  have hb : Below W.heap.size W W.drew := (Below.refl _ _).drew
  iterate 2
    refine wpFG_take0 rfl rfl ?_
    go_big_quiet_step (rfl)
    refine wpQuiet_nil ?_
  refine wpFG_do rfl ?_
  intro w1 hg K hK
  replace hb := hb.trans (hg.mono hb.size)
  clear hg
  go_wp2_with ((first | (go_at_call 136; refine (size_any _ _).mono ?_; rintro e w2 ⟨rfl, hn⟩) | (go_at_call 135; refine (divided_any _ _ _ HX.out HY.out).mono ?_; rintro e w2 ⟨rfl, hn⟩)))
  refine hK.out _ _ hn ?_
  replace hb := hb.trans (hn.mono hb.size)
  clear hK K
  clear hn
  refine wpFG_do rfl ?_
  intro w1 hg K hK
  replace hb := hb.trans (hg.mono hb.size)
  clear hg
  go_wp2_with ((first | (go_at_call 136; refine (size_any _ _).mono ?_; rintro e w2 ⟨rfl, hn⟩) | (go_at_call 135; refine (divided_any _ _ _ HX.out HY.out).mono ?_; rintro e w2 ⟨rfl, hn⟩)))
  refine hK.out _ _ hn ?_
  replace hb := hb.trans (hn.mono hb.size)
  clear hK K
  clear hn
  refine wpFG_do rfl ?_
  intro w1 hg K hK
  replace hb := hb.trans (hg.mono hb.size)
  clear hg
  go_wp2_with ((first | (go_at_call 136; refine (size_any _ _).mono ?_; rintro e w2 ⟨rfl, hn⟩) | (go_at_call 135; refine (divided_any _ _ _ HX.out HY.out).mono ?_; rintro e w2 ⟨rfl, hn⟩)))
  refine hK.out _ _ hn ?_
  replace hb := hb.trans (hn.mono hb.size)
  clear hK K
  clear hn
  iterate 2
    refine wpFG_take0 rfl rfl ?_
    go_big_quiet_step (rfl)
    refine wpQuiet_nil ?_
  refine wpFG_take2 rfl rfl ?_
  go_big_quiet_step (rfl)
  refine wpQuiet_nil ?_
  refine wpFG_nil ?_
  clear hb
  intro w1 hg hb b1 b2 hne lb1 nb1 lb2 nb2
  clear hg
  simp only [Act.put, ptrTo, List.setIfInBounds_toArray, List.set_cons_succ, List.set_cons_zero]
  have c4 := Var.c (show Var w1 b1 0 from nb1)
  have f4 := Var.f (show Var w1 b1 0 from nb1)
  have c5 := Var.c (show Var w1 b2 0 from nb2)
  have f5 := Var.f (show Var w1 b2 0 from nb2)
  clear c0 c1 l0 l1
  refine wpG_do3 rfl ?_
  intro K hK
  go_wp2_with (fail)
  refine hK.out _ _ ?_
  clear hK K
  refine wpG_do3 rfl ?_
  intro K hK
  go_wp2_with (fail)
  refine hK.out _ _ ?_
  clear hK K
  refine wpG_nil ?_
  refine list_world ?_
  intro W1 hW1
  have hd : DvAt w x y (sz x / sz y) (sz x % sz y) b1 b2 W1 := by
    have h0 : DvAt w x y 0 0 b1 b2 w1 := ⟨V0.out.of hb, V1.out.of hb, V2.out.of hb, V3.out.of hb, nb1, nb2, hne, by omega, by omega, hb0.trans (hb.mono hb0.size)⟩
    rw [hW1]; exact (h0.setn _).setm _
  clear hW1 V0 V1 V2 V3 nb1 nb2 hb hb0 c4 f4 c5 f5 hne lb1 lb2 l3
  cases u
  · have hu : (ng x == ng y) = true := HU.out
    clear HU HZ
    have c0 := Var.c hd.v0
    have c1 := Var.c hd.v1
    have l0 := Blk.lt hd.v0
    have l1 := Blk.lt hd.v1
    have hD := Lib.hid hd
    clear hd
    go_wp2_with fail
    refine wp_region_up W1.heap.size 3 [(true, 0), (true, 2), (false, 1)] (by kernel_rfl) (by kernel_rfl) (fun _ _ d _ _ h => by cases d <;> exact h) ?_
    have hb : Below W1.heap.size W1 W1.drew := (Below.refl _ _).drew
    iterate 2
      refine wpS_takeL rfl rfl ?_
      go_big_quiet_step (rfl)
      refine wpQuiet_nil ?_
    refine wpS_doL rfl ?_
    intro K hK
    go_wp2_with ((go_at_call 88; refine (negative_any _ _).mono ?_; rintro e w2 ⟨rfl, hn⟩))
    replace hb := hb.trans (hn.mono hb.size)
    refine hK.out _ _ (up_iff.2 hb) ?_
    clear hK K
    clear hn
    refine wpS_nil ?_
    simp only [List.drop_succ_cons, List.drop_zero]
    go_wp2_with (go_at_call 88; refine (negative_any _ _).mono ?_; rintro e w2 ⟨rfl, hn⟩; replace hb := hb.trans (hn.mono hb.size); have hd := hD.out.of hb; have cn := Var.c hd.vn; have cm := Var.c hd.vm; clear hn hb c0 c1 l0 l1)
    refine calls_w ?_
    intro W3 hW3
    rw [← hW3] at hd
    clear hW3 cn cm
    cases sn
    · refine (signed_is (sz x / sz y) false false _ HS.out).mono ?_
      rintro e w4 ⟨rfl, hn⟩
      replace hd := hd.of hn
      have c2 := Var.c hd.v2
      have c3 := Var.c hd.v3
      have f2 := Var.f hd.v2
      have f3 := Var.f hd.v3
      have V2 := Lib.hid hd.v2
      have V3 := Lib.hid hd.v3
      have hbl := hd.below
      clear hn hd
      go_wp2
      refine post_world ?_
      intro W8 hW8
      have v2 : Var W8 (w.heap.size + 1 + 1) 0 := by rw [hW8]; exact (Var.put4 (Var.put4 V2.out 0) 0).set4 (by omega) _ _ _ _
      have v3 : Var W8 (w.heap.size + 1 + 1 + 1) 0 := by rw [hW8]; exact Var.put4 ((V3.out.set4 (by omega) _ _ _ _).set4 (by omega) _ _ _ _) 0
      have hb8 : Below w.heap.size w W8 := by
        rw [hW8]
        refine below_set4 (below_set4 (below_set4 hbl ?_ _ _ _ _) ?_ _ _ _ _) ?_ _ _ _ _ <;> omega
      clear hW8 c2 c3 f2 f3 V2 V3 hbl
      have c2 := Var.c v2
      have c3 := Var.c v3
      simp [bodyPost, results, Try.results109, go_sem, c2, c3]
      exact hb8
    · refine (signed_is (sz x / sz y) false true _ HS.out).mono ?_
      rintro e w4 ⟨rfl, hn⟩
      replace hd := hd.of hn
      have c2 := Var.c hd.v2
      have f2 := Var.f hd.v2
      clear hn
      go_wp2_with fail
      refine name_world ?_
      intro W5 hW5
      replace hd : DwAt w x y (sgV (sz x / sz y) false) (sz x % sz y) b1 b2 W5 := by rw [hW5]; exact hd.out2 _
      clear hW5 c2 f2
      have c1 := Var.c hd.v1
      have cm := Var.c hd.vm
      have l1 := Blk.lt hd.v1
      have lm := Blk.lt hd.vm
      have hD := Lib.hid hd
      clear hd
      refine wp_region_G 7 [(0, 0), (0, 1), (1, 2), (1, 3), (0, 4), (0, 5), (2, 6), (3, 7), (2, 8)] (by kernel_rfl) (by kernel_rfl) (fun _ _ d _ _ => by cases d <;> exact Iff.rfl) ?_
      have hb : Below W5.heap.size W5 W5.drew := (Below.refl _ _).drew
      iterate 2
        refine wpG_take0 rfl rfl ?_
        go_big_quiet_step (rfl)
        refine wpQuiet_nil ?_
      refine wpG_do1 rfl ?_
      intro K hK
      go_wp2_with ((first | (go_at_call 88; refine (negative_any _ _).mono ?_; rintro e w2 ⟨rfl, hn⟩) | (go_at_call 139; refine (signed_any (sz x % sz y) (ng y) _).mono ?_; rintro e w2 ⟨rfl, hn⟩)))
      replace hb := hb.trans (hn.mono hb.size)
      refine hK.out _ _ (up_iff.2 hb) ?_
      clear hK K
      clear hn
      refine wpG_do1 rfl ?_
      intro K hK
      go_wp2_with ((first | (go_at_call 88; refine (negative_any _ _).mono ?_; rintro e w2 ⟨rfl, hn⟩) | (go_at_call 139; refine (signed_any (sz x % sz y) (ng y) _).mono ?_; rintro e w2 ⟨rfl, hn⟩)))
      replace hb := hb.trans (hn.mono hb.size)
      refine hK.out _ _ (up_iff.2 hb) ?_
      clear hK K
      clear hn
      iterate 2
        refine wpG_take0 rfl rfl ?_
        go_big_quiet_step (rfl)
        refine wpQuiet_nil ?_
      refine wpG_take2 rfl rfl ?_
      go_big_quiet_step (rfl)
      refine wpQuiet_nil ?_
      have hd := hD.out.of hb
      have c3 := Var.c hd.v3
      have f3 := Var.f hd.v3
      clear c1 cm l1 lm
      refine wpG_do3 rfl ?_
      intro K hK
      go_wp2_with (fail)
      refine hK.out _ _ ?_
      clear hK K
      refine wpG_take2 rfl rfl ?_
      go_big_quiet_step (rfl)
      refine wpQuiet_nil ?_
      refine wpG_nil ?_
      go_wp2_with fail
      refine name_world ?_
      intro W6 hW6
      have hd6 := hd.out3 (bif sgB (sz x % sz y) (ng y) then sgV (sz x % sz y) (ng y) else 0)
      rw [← hW6] at hd6
      clear hW6 hd c3 f3 hb hD
      have c2 := Var.c hd6.1
      have c3 := Var.c hd6.2.1
      have f2 := Var.f hd6.1
      have f3 := Var.f hd6.2.1
      have hbl := hd6.2.2
      clear hd6
      go_region
      go_wp2
      simp [bodyPost, results, Try.results109, go_sem, c2, c3]
      refine ⟨by (repeat' apply And.intro) <;> rfl, ?_⟩
      refine (below_set4 (below_set4 hbl ?_ _ _ _ _) ?_ _ _ _ _).drew <;> omega
  · have hu : (ng x == ng y) = false := HU.out
    have hzm := HZ.out
    clear HU HZ
    cases zm
    · have c0 := Var.c hd.v0
      have c1 := Var.c hd.v1
      have l0 := Blk.lt hd.v0
      have l1 := Blk.lt hd.v1
      have hD := Lib.hid hd
      clear hd
      go_wp2_with fail
      refine wp_region_up W1.heap.size 3 [(true, 0), (true, 2), (false, 1)] (by kernel_rfl) (by kernel_rfl) (fun _ _ d _ _ h => by cases d <;> exact h) ?_
      have hb : Below W1.heap.size W1 W1.drew := (Below.refl _ _).drew
      iterate 2
        refine wpS_takeL rfl rfl ?_
        go_big_quiet_step (rfl)
        refine wpQuiet_nil ?_
      refine wpS_doL rfl ?_
      intro K hK
      go_wp2_with ((go_at_call 88; refine (negative_any _ _).mono ?_; rintro e w2 ⟨rfl, hn⟩))
      replace hb := hb.trans (hn.mono hb.size)
      refine hK.out _ _ (up_iff.2 hb) ?_
      clear hK K
      clear hn
      refine wpS_nil ?_
      simp only [List.drop_succ_cons, List.drop_zero]
      go_wp2_with (go_at_call 88; refine (negative_any _ _).mono ?_; rintro e w2 ⟨rfl, hn⟩; replace hb := hb.trans (hn.mono hb.size); have hd := hD.out.of hb; have cn := Var.c hd.vn; have cm := Var.c hd.vm; clear hn hb c0 c1 l0 l1)
      refine (plus_any (sz x / sz y) 0 1 _ (by decide) (by decide)).mono ?_
      rintro e w3 ⟨rfl, hn⟩
      rw [Int.add_zero]
      replace hd := hd.of hn
      clear hn cn cm
      have cn := Var.c hd.vn
      have fn := Var.f hd.vn
      go_wp2_with fail
      refine name_world ?_
      intro W4 hW4
      replace hd : DvAt w x y (sz x / sz y + 1) (sz x % sz y) b1 b2 W4 := by rw [hW4]; exact hd.setn _
      clear hW4 cn fn
      have c1 := Var.c hd.v1
      have cm := Var.c hd.vm
      have l1 := Blk.lt hd.v1
      have lm := Blk.lt hd.vm
      have hD := Lib.hid hd
      clear hd
      refine wp_region_up W4.heap.size 3 [(true, 0), (true, 2), (false, 1)] (by kernel_rfl) (by kernel_rfl) (fun _ _ d _ _ h => by cases d <;> exact h) ?_
      have hb : Below W4.heap.size W4 W4.drew := (Below.refl _ _).drew
      iterate 2
        refine wpS_takeL rfl rfl ?_
        go_big_quiet_step (rfl)
        refine wpQuiet_nil ?_
      refine wpS_doL rfl ?_
      intro K hK
      go_wp2_with ((go_at_call 136; refine (size_any _ _).mono ?_; rintro e w2 ⟨rfl, hn⟩))
      replace hb := hb.trans (hn.mono hb.size)
      refine hK.out _ _ (up_iff.2 hb) ?_
      clear hK K
      clear hn
      refine wpS_nil ?_
      simp only [List.drop_succ_cons, List.drop_zero]
      go_wp2_with fail
      refine (turned_any (sz x % sz y) _).mono ?_
      rintro e w5 ⟨rfl, hn⟩
      replace hb := hb.trans (hn.mono hb.size)
      clear hn
      go_wp2_with fail
      refine (plus_any (sz y) (-1 - sz x % sz y) 1 _ (by decide) (by decide)).mono ?_
      rintro e w6 ⟨rfl, hn⟩
      replace hb := hb.trans (hn.mono hb.size)
      clear hn
      have e6 : sz y + (-1 - sz x % sz y) + 1 = sz y - sz x % sz y := by omega
      rw [e6]
      clear e6
      have hd := hD.out.of hb
      clear hD hb c1 cm l1 lm
      have cm := Var.c hd.vm
      have fm := Var.f hd.vm
      have cn := Var.c hd.vn
      have hne := hd.hne
      have hne' := hd.hne.symm
      go_wp2_with fail
      clear hne hne'
      replace hd := hd.setm (sz y - sz x % sz y)
      clear fm
      refine calls_w ?_
      intro W3 hW3
      rw [← hW3] at hd
      clear hW3 cn cm
      cases sn
      · refine (signed_is (sz x / sz y + 1) true false _ HS.out).mono ?_
        rintro e w4 ⟨rfl, hn⟩
        replace hd := hd.of hn
        have c2 := Var.c hd.v2
        have c3 := Var.c hd.v3
        have f2 := Var.f hd.v2
        have f3 := Var.f hd.v3
        have V2 := Lib.hid hd.v2
        have V3 := Lib.hid hd.v3
        have hbl := hd.below
        clear hn hd
        go_wp2
        refine post_world ?_
        intro W8 hW8
        have v2 : Var W8 (w.heap.size + 1 + 1) 0 := by rw [hW8]; exact (Var.put4 (Var.put4 V2.out 0) 0).set4 (by omega) _ _ _ _
        have v3 : Var W8 (w.heap.size + 1 + 1 + 1) 0 := by rw [hW8]; exact Var.put4 ((V3.out.set4 (by omega) _ _ _ _).set4 (by omega) _ _ _ _) 0
        have hb8 : Below w.heap.size w W8 := by
          rw [hW8]
          refine below_set4 (below_set4 (below_set4 hbl ?_ _ _ _ _) ?_ _ _ _ _) ?_ _ _ _ _ <;> omega
        clear hW8 c2 c3 f2 f3 V2 V3 hbl
        have c2 := Var.c v2
        have c3 := Var.c v3
        simp [bodyPost, results, Try.results109, go_sem, c2, c3]
        exact hb8
      · refine (signed_is (sz x / sz y + 1) true true _ HS.out).mono ?_
        rintro e w4 ⟨rfl, hn⟩
        replace hd := hd.of hn
        have c2 := Var.c hd.v2
        have f2 := Var.f hd.v2
        clear hn
        go_wp2_with fail
        refine name_world ?_
        intro W5 hW5
        replace hd : DwAt w x y (sgV (sz x / sz y + 1) true) (sz y - sz x % sz y) b1 b2 W5 := by rw [hW5]; exact hd.out2 _
        clear hW5 c2 f2
        have c1 := Var.c hd.v1
        have cm := Var.c hd.vm
        have l1 := Blk.lt hd.v1
        have lm := Blk.lt hd.vm
        have hD := Lib.hid hd
        clear hd
        refine wp_region_G 7 [(0, 0), (0, 1), (1, 2), (1, 3), (0, 4), (0, 5), (2, 6), (3, 7), (2, 8)] (by kernel_rfl) (by kernel_rfl) (fun _ _ d _ _ => by cases d <;> exact Iff.rfl) ?_
        have hb : Below W5.heap.size W5 W5.drew := (Below.refl _ _).drew
        iterate 2
          refine wpG_take0 rfl rfl ?_
          go_big_quiet_step (rfl)
          refine wpQuiet_nil ?_
        refine wpG_do1 rfl ?_
        intro K hK
        go_wp2_with ((first | (go_at_call 88; refine (negative_any _ _).mono ?_; rintro e w2 ⟨rfl, hn⟩) | (go_at_call 139; refine (signed_any (sz y - sz x % sz y) (ng y) _).mono ?_; rintro e w2 ⟨rfl, hn⟩)))
        replace hb := hb.trans (hn.mono hb.size)
        refine hK.out _ _ (up_iff.2 hb) ?_
        clear hK K
        clear hn
        refine wpG_do1 rfl ?_
        intro K hK
        go_wp2_with ((first | (go_at_call 88; refine (negative_any _ _).mono ?_; rintro e w2 ⟨rfl, hn⟩) | (go_at_call 139; refine (signed_any (sz y - sz x % sz y) (ng y) _).mono ?_; rintro e w2 ⟨rfl, hn⟩)))
        replace hb := hb.trans (hn.mono hb.size)
        refine hK.out _ _ (up_iff.2 hb) ?_
        clear hK K
        clear hn
        iterate 2
          refine wpG_take0 rfl rfl ?_
          go_big_quiet_step (rfl)
          refine wpQuiet_nil ?_
        refine wpG_take2 rfl rfl ?_
        go_big_quiet_step (rfl)
        refine wpQuiet_nil ?_
        have hd := hD.out.of hb
        have c3 := Var.c hd.v3
        have f3 := Var.f hd.v3
        clear c1 cm l1 lm
        refine wpG_do3 rfl ?_
        intro K hK
        go_wp2_with (fail)
        refine hK.out _ _ ?_
        clear hK K
        refine wpG_take2 rfl rfl ?_
        go_big_quiet_step (rfl)
        refine wpQuiet_nil ?_
        refine wpG_nil ?_
        go_wp2_with fail
        refine name_world ?_
        intro W6 hW6
        have hd6 := hd.out3 (bif sgB (sz y - sz x % sz y) (ng y) then sgV (sz y - sz x % sz y) (ng y) else 0)
        rw [← hW6] at hd6
        clear hW6 hd c3 f3 hb hD
        have c2 := Var.c hd6.1
        have c3 := Var.c hd6.2.1
        have f2 := Var.f hd6.1
        have f3 := Var.f hd6.2.1
        have hbl := hd6.2.2
        clear hd6
        go_region
        go_wp2
        simp [bodyPost, results, Try.results109, go_sem, c2, c3]
        refine ⟨by (repeat' apply And.intro) <;> rfl, ?_⟩
        refine (below_set4 (below_set4 hbl ?_ _ _ _ _) ?_ _ _ _ _).drew <;> omega
    · have c0 := Var.c hd.v0
      have c1 := Var.c hd.v1
      have l0 := Blk.lt hd.v0
      have l1 := Blk.lt hd.v1
      have hD := Lib.hid hd
      clear hd
      go_wp2_with fail
      refine wp_region_up W1.heap.size 3 [(true, 0), (true, 2), (false, 1)] (by kernel_rfl) (by kernel_rfl) (fun _ _ d _ _ h => by cases d <;> exact h) ?_
      have hb : Below W1.heap.size W1 W1.drew := (Below.refl _ _).drew
      iterate 2
        refine wpS_takeL rfl rfl ?_
        go_big_quiet_step (rfl)
        refine wpQuiet_nil ?_
      refine wpS_doL rfl ?_
      intro K hK
      go_wp2_with ((go_at_call 88; refine (negative_any _ _).mono ?_; rintro e w2 ⟨rfl, hn⟩))
      replace hb := hb.trans (hn.mono hb.size)
      refine hK.out _ _ (up_iff.2 hb) ?_
      clear hK K
      clear hn
      refine wpS_nil ?_
      simp only [List.drop_succ_cons, List.drop_zero]
      go_wp2_with (go_at_call 88; refine (negative_any _ _).mono ?_; rintro e w2 ⟨rfl, hn⟩; replace hb := hb.trans (hn.mono hb.size); have hd := hD.out.of hb; have cn := Var.c hd.vn; have cm := Var.c hd.vm; clear hn hb c0 c1 l0 l1)
      refine calls_w ?_
      intro W3 hW3
      rw [← hW3] at hd
      clear hW3 cn cm
      cases sn
      · refine (signed_is (sz x / sz y) true false _ HS.out).mono ?_
        rintro e w4 ⟨rfl, hn⟩
        replace hd := hd.of hn
        have c2 := Var.c hd.v2
        have c3 := Var.c hd.v3
        have f2 := Var.f hd.v2
        have f3 := Var.f hd.v3
        have V2 := Lib.hid hd.v2
        have V3 := Lib.hid hd.v3
        have hbl := hd.below
        clear hn hd
        go_wp2
        refine post_world ?_
        intro W8 hW8
        have v2 : Var W8 (w.heap.size + 1 + 1) 0 := by rw [hW8]; exact (Var.put4 (Var.put4 V2.out 0) 0).set4 (by omega) _ _ _ _
        have v3 : Var W8 (w.heap.size + 1 + 1 + 1) 0 := by rw [hW8]; exact Var.put4 ((V3.out.set4 (by omega) _ _ _ _).set4 (by omega) _ _ _ _) 0
        have hb8 : Below w.heap.size w W8 := by
          rw [hW8]
          refine below_set4 (below_set4 (below_set4 hbl ?_ _ _ _ _) ?_ _ _ _ _) ?_ _ _ _ _ <;> omega
        clear hW8 c2 c3 f2 f3 V2 V3 hbl
        have c2 := Var.c v2
        have c3 := Var.c v3
        simp [bodyPost, results, Try.results109, go_sem, c2, c3]
        exact hb8
      · refine (signed_is (sz x / sz y) true true _ HS.out).mono ?_
        rintro e w4 ⟨rfl, hn⟩
        replace hd := hd.of hn
        have c2 := Var.c hd.v2
        have f2 := Var.f hd.v2
        clear hn
        go_wp2_with fail
        refine name_world ?_
        intro W5 hW5
        replace hd : DwAt w x y (sgV (sz x / sz y) true) (sz x % sz y) b1 b2 W5 := by rw [hW5]; exact hd.out2 _
        clear hW5 c2 f2
        have c1 := Var.c hd.v1
        have cm := Var.c hd.vm
        have l1 := Blk.lt hd.v1
        have lm := Blk.lt hd.vm
        have hD := Lib.hid hd
        clear hd
        refine wp_region_G 7 [(0, 0), (0, 1), (1, 2), (1, 3), (0, 4), (0, 5), (2, 6), (3, 7), (2, 8)] (by kernel_rfl) (by kernel_rfl) (fun _ _ d _ _ => by cases d <;> exact Iff.rfl) ?_
        have hb : Below W5.heap.size W5 W5.drew := (Below.refl _ _).drew
        iterate 2
          refine wpG_take0 rfl rfl ?_
          go_big_quiet_step (rfl)
          refine wpQuiet_nil ?_
        refine wpG_do1 rfl ?_
        intro K hK
        go_wp2_with ((first | (go_at_call 88; refine (negative_any _ _).mono ?_; rintro e w2 ⟨rfl, hn⟩) | (go_at_call 139; refine (signed_any (sz x % sz y) (ng y) _).mono ?_; rintro e w2 ⟨rfl, hn⟩)))
        replace hb := hb.trans (hn.mono hb.size)
        refine hK.out _ _ (up_iff.2 hb) ?_
        clear hK K
        clear hn
        refine wpG_do1 rfl ?_
        intro K hK
        go_wp2_with ((first | (go_at_call 88; refine (negative_any _ _).mono ?_; rintro e w2 ⟨rfl, hn⟩) | (go_at_call 139; refine (signed_any (sz x % sz y) (ng y) _).mono ?_; rintro e w2 ⟨rfl, hn⟩)))
        replace hb := hb.trans (hn.mono hb.size)
        refine hK.out _ _ (up_iff.2 hb) ?_
        clear hK K
        clear hn
        iterate 2
          refine wpG_take0 rfl rfl ?_
          go_big_quiet_step (rfl)
          refine wpQuiet_nil ?_
        refine wpG_take2 rfl rfl ?_
        go_big_quiet_step (rfl)
        refine wpQuiet_nil ?_
        have hd := hD.out.of hb
        have c3 := Var.c hd.v3
        have f3 := Var.f hd.v3
        clear c1 cm l1 lm
        refine wpG_do3 rfl ?_
        intro K hK
        go_wp2_with (fail)
        refine hK.out _ _ ?_
        clear hK K
        refine wpG_take2 rfl rfl ?_
        go_big_quiet_step (rfl)
        refine wpQuiet_nil ?_
        refine wpG_nil ?_
        go_wp2_with fail
        refine name_world ?_
        intro W6 hW6
        have hd6 := hd.out3 (bif sgB (sz x % sz y) (ng y) then sgV (sz x % sz y) (ng y) else 0)
        rw [← hW6] at hd6
        clear hW6 hd c3 f3 hb hD
        have c2 := Var.c hd6.1
        have c3 := Var.c hd6.2.1
        have f2 := Var.f hd6.1
        have f3 := Var.f hd6.2.1
        have hbl := hd6.2.2
        clear hd6
        go_region
        go_wp2
        simp [bodyPost, results, Try.results109, go_sem, c2, c3]
        refine ⟨by (repeat' apply And.intro) <;> rfl, ?_⟩
        refine (below_set4 (below_set4 hbl ?_ _ _ _ _) ?_ _ _ _ _).drew <;> omega
end Go.Proofs.Ytlcbomjdbdgbmaa
namespace Go.Proofs.Ytlcbomjdbdgbmaa
open Go.RowKit

theorem sgB_of {s : Int} (b : Bool) (h0 : 0 ≤ s) (h1 : s ≤ b255) : sgB s b = (b || decide (s < b255)) := by
  unfold sgB
  cases b
  · rw [cond_false, Bool.false_or, Bool.eq_iff_iff, decide_eq_true_iff, Bool.not_eq_true', ← Bool.not_eq_true, ng_iff]
    unfold b255 b256 at *; omega
  · rw [cond_true, Bool.true_or, eq4_0, ng_in (by unfold InI b255 at *; omega), eq0_iff (by unfold b255 at *; omega)]
    rw [Bool.or_eq_true, decide_eq_true_iff, decide_eq_true_iff]; omega

/-- does Div answer? -/
def dvOk (x y : Int) : Bool := decide (y ≠ 0) && decide (fq x y < b255)

theorem Div_any (x y : Int) (w : World) (ix : InI x) (iy : InI y) :
    Calls Try.prog 109 #[wI x, wI y] w fun e w' => e = .returned (bif dvOk x y then .tuple #[wI (fq x y), wI (fr x y), .bool true] else .tuple #[wI 0, wI 0, .bool false]) ∧ Below w.heap.size w w' := by
  by_cases hy : y = 0
  · subst hy
    have e : dvOk x 0 = false := by simp [dvOk]
    rw [e]
    exact Div_0 x 0 w rfl
  · have bx := sz_bd ix
    have by' := sz_bd iy
    have sy : 0 < sz y := by rw [sz_in iy]; omega
    obtain ⟨s1, s2, n0, n1, m0, m1⟩ := dv_spec ix iy hy
    have hz : eq4 (wd0 (sz x % sz y)) (wd1 (sz x % sz y)) (wd2 (sz x % sz y)) (wd3 (sz x % sz y)) 0 0 0 0 = zmI x y := eq4_0 _
    have hne : eq4 (wd0 y) (wd1 y) (wd2 y) (wd3 y) 0 0 0 0 = false := by
      rw [eq4_0, decide_eq_false_iff_not]
      obtain ⟨h1, h2⟩ := iy
      unfold b255 b256 at *; omega
    have hu : (ng x == ng y) = !(ng x != ng y) := by cases ng x <;> cases ng y <;> rfl
    refine (Div_go x y w (ng x != ng y) (zmI x y) _ hne (by unfold b255 b256 at *; omega) (by unfold b255 b256 at *; omega) hu hz rfl).mono fun e w' ⟨he, hw⟩ => ⟨?_, hw⟩
    rw [he]
    have g1 := sgB_of (ng x != ng y) n0 n1
    have g2 : sgB (dvM x y (ng x != ng y) (zmI x y)) (ng y) = true := by
      rw [sgB_of (ng y) m0 (by omega), Bool.or_eq_true, decide_eq_true_iff]
      rcases Int.lt_or_le y 0 with h | h
      · exact .inl (by rw [ng_in iy]; simpa using h)
      · right
        have : sz y = y := sz_pos iy h
        obtain ⟨h1, h2⟩ := iy
        omega
    have g3 : dvOk x y = sgB (dvN x y (ng x != ng y) (zmI x y)) (ng x != ng y) := by
      rw [g1]
      unfold dvOk
      have : decide (y ≠ 0) = true := by simpa using hy
      rw [this, Bool.true_and, ← s1]
      have n0' : 0 ≤ dvN x y (ng x != ng y) (zmI x y) := n0
      cases hu' : (ng x != ng y)
      · rfl
      · rw [hu'] at n0'
        simp only [cond_true, Bool.true_or, decide_eq_true_iff]; unfold b255 at *; omega
    rw [g2, ← g3]
    unfold sgV
    rw [s1, cond_true, s2]

/-- does a number fit? -/
def okI (x : Int) : Bool := decide (InI x)
theorem addB_ok {x y : Int} (ix : InI x) (iy : InI y) : addB x y = okI (x + y) := by
  unfold addB okI
  rw [ng_in ix, ng_in iy]
  have hs := ng_iff (x + y)
  obtain ⟨h1, h2⟩ := ix
  obtain ⟨h3, h4⟩ := iy
  rw [Bool.eq_iff_iff, decide_eq_true_iff]
  unfold InI
  cases hn : ng (x + y)
  · have hs' : ¬ b255 ≤ (x + y) % b256 := fun h => by rw [hs.2 h] at hn; cases hn
    by_cases a : x < 0 <;> by_cases b : y < 0 <;> simp [a, b] <;> unfold b255 b256 at * <;> omega
  · have hs' := hs.1 hn
    by_cases a : x < 0 <;> by_cases b : y < 0 <;> simp [a, b] <;> unfold b255 b256 at * <;> omega
theorem subB_ok {x y : Int} (ix : InI x) (iy : InI y) : subB x y = okI (x - y) := by
  unfold subB okI
  rw [ng_in ix, ng_in iy]
  have hs := ng_iff (x - y)
  obtain ⟨h1, h2⟩ := ix
  obtain ⟨h3, h4⟩ := iy
  rw [Bool.eq_iff_iff, decide_eq_true_iff]
  unfold InI
  cases hn : ng (x - y)
  · have hs' : ¬ b255 ≤ (x - y) % b256 := fun h => by rw [hs.2 h] at hn; cases hn
    by_cases a : x < 0 <;> by_cases b : y < 0 <;> simp [a, b] <;> unfold b255 b256 at * <;> omega
  · have hs' := hs.1 hn
    by_cases a : x < 0 <;> by_cases b : y < 0 <;> simp [a, b] <;> unfold b255 b256 at * <;> omega

theorem Add_ok (x y : Int) (w : World) (ix : InI x) (iy : InI y) : Calls Try.prog 122 #[wI x, wI y] w fun e w' => e = .returned (.tuple #[wI (bif okI (x + y) then x + y else 0), .bool (okI (x + y))]) ∧ Below w.heap.size w w' := by
  rw [← addB_ok ix iy]; exact Add_any x y w
theorem Sub_ok (x y : Int) (w : World) (ix : InI x) (iy : InI y) : Calls Try.prog 123 #[wI x, wI y] w fun e w' => e = .returned (.tuple #[wI (bif okI (x - y) then x - y else 0), .bool (okI (x - y))]) ∧ Below w.heap.size w w' := by
  rw [← subB_ok ix iy]; exact Sub_any x y w
end Go.Proofs.Ytlcbomjdbdgbmaa
namespace Go.Proofs.Ytlcbomjdbdgbmaa
open Go.RowKit

/-- a slice of ints that holds these digits -/
structure Sl (w : World) (ao : Option Addr) (b : Nat) (cap : Nat) (ds : List Int) : Prop where
  ptr : 0 < ds.length → ao = some ⟨b, 0, none⟩
  nil : ao = none → cap = 0
  capl : ds.length ≤ cap
  len : ds.length < 1073741824
  capb : cap ≤ 9223372036854775807
  cell : ∀ i, i < ds.length → w.cell? ⟨b, i, none⟩ = some (.int .i64 (ds.getD i 0))
  blk : 0 < ds.length → b < w.heap.size
theorem Sl.of {w w' : World} {ao : Option Addr} {b cap : Nat} {ds : List Int} (h : Sl w ao b cap ds) (hb : Below w.heap.size w w') : Sl w' ao b cap ds :=
  ⟨h.ptr, h.nil, h.capl, h.len, h.capb, fun i hi => by rw [hb.cell (p := ⟨b, i, none⟩) (h.blk (by omega))]; exact h.cell i hi, fun hl => Nat.lt_of_lt_of_le (h.blk hl) hb.size⟩

/-- a Big that is the number n, of at most L digits -/
def Big (w : World) (v : Value) (n : Int) (L : Nat) : Prop :=
  ∃ (neg : Bool) (ao : Option Addr) (b cap : Nat) (ds : List Int), v = .agg #[.bool neg, .slice ao ds.length cap] ∧ Sl w ao b cap ds ∧ DigOk ds ∧ Norm ds ∧ (ds = [] → neg = false ∧ ao = none) ∧ n = (bif neg then -dval ds else dval ds) ∧ ds.length ≤ L
theorem Big.of {w w' : World} {v : Value} {n : Int} {L : Nat} (h : Big w v n L) (hb : Below w.heap.size w w') : Big w' v n L := by
  obtain ⟨neg, ao, b, cap, ds, h1, h2, h3⟩ := h
  exact ⟨neg, ao, b, cap, ds, h1, h2.of hb, h3⟩
theorem Big.drew {w : World} {v : Value} {n : Int} {L : Nat} (h : Big w v n L) : Big w.drew v n L := h.of (Below.refl _ _).drew
theorem Big.zero (w : World) (L : Nat) : Big w (.agg #[.bool false, .slice none 0 0]) 0 L :=
  ⟨false, none, 0, 0, [], rfl, ⟨fun h => absurd h (Nat.lt_irrefl 0), fun _ => rfl, Nat.le_refl _, by decide, by decide, fun i hi => absurd hi (Nat.not_lt_zero i), fun h => absurd h (Nat.lt_irrefl 0)⟩, DigOk.nil, .inl rfl, fun _ => ⟨rfl, rfl⟩, rfl, Nat.zero_le _⟩
theorem Big.mono {w : World} {v : Value} {n : Int} {L L' : Nat} (h : Big w v n L) (hl : L ≤ L') : Big w v n L' := by
  obtain ⟨neg, ao, b, cap, ds, h1, h2, h3, h4, h5, h6, h7⟩ := h
  exact ⟨neg, ao, b, cap, ds, h1, h2, h3, h4, h5, h6, Nat.le_trans h7 hl⟩


/-- it hands back some Big that is n -/
def GivesBig (w : World) (n : Int) (L : Nat) (e : Ending) (w' : World) : Prop := ∃ v, e = .returned v ∧ Big w' v n L ∧ Below w.heap.size w w'

set_option maxRecDepth 100000 in
theorem Minus_any (v : Value) (n : Int) (L : Nat) (w : World) (h : Big w v n L) : Calls Try.prog 25 #[v] w (GivesBig w (-n) L) := by
  obtain ⟨neg, ao, b, cap, ds, rfl, hs, hd, hn, hz, hv, hl⟩ := h
  by_cases h0 : ds = []
  · subst h0
    obtain ⟨rfl, rfl⟩ := hz rfl
    have hc := hs.nil rfl
    subst hc
    have HV := Lib.hid hv
    clear hv hz hn hd hs
    have hlen : ([] : List Int).length = 0 := rfl
    rw [hlen]
    clear hlen
    go_enter Try.func25, Try.ntmps25
    go_wp2
    simp [bodyPost, results, Try.results25, go_sem]
    refine ⟨_, rfl, ?_, ?_⟩
    · rw [HV.out]; exact Big.zero _ _
    · (repeat (first | exact Below.refl _ _ | refine below_drewN ?_ _ | refine Below.drew ?_ | refine Below.alloc ?_ (by simp) _ | refine Below.alloc ?_ (by simp; omega) _))
  · have hlp : 0 < ds.length := List.length_pos_iff.2 h0
    have hl0 : ((ds.length : Int) == 0) = false := by simp; omega
    have hlb := hs.len
    have HV := Lib.hid hv
    have HS := Lib.hid hs
    have HD := Lib.hid (And.intro hd (And.intro hn hl))
    clear hz hv hs hd hn hl
    go_enter Try.func25, Try.ntmps25
    go_wp2
    simp [bodyPost, results, Try.results25, go_sem]
    have hb : Below w.heap.size w ((w.alloc (Obj.cells #[Value.bool neg, Value.slice ao ds.length cap] 28)).alloc (Obj.cells #[Value.bool !neg, Value.slice ao ds.length cap] 28)) := by
      (repeat (first | exact Below.refl _ _ | refine below_drewN ?_ _ | refine Below.drew ?_ | refine Below.alloc ?_ (by simp) _ | refine Below.alloc ?_ (by simp; omega) _))
    exact ⟨_, rfl, ⟨!neg, ao, b, cap, ds, rfl, HS.out.of hb, HD.out.1, HD.out.2.1, fun h => absurd h h0, by rw [HV.out]; cases neg <;> simp, HD.out.2.2⟩, hb⟩

set_option maxRecDepth 100000 in
set_option maxHeartbeats 1000000 in
theorem sizes_any (ao bo : Option Addr) (b b' cap cap' : Nat) (xs ys : List Int) (w : World) (ha : Sl w ao b cap xs) (hb : Sl w bo b' cap' ys) (da : DigOk xs) (db : DigOk ys) (na : Norm xs) (nb : Norm ys) :
    Calls Try.prog 82 #[.slice ao xs.length cap, .slice bo ys.length cap'] w fun e w' => e = .returned (.int .i64 (cmpI (dval xs) (dval ys))) ∧ Below w.heap.size w w' := by
  have HA := Lib.hid ha
  have HB := Lib.hid hb
  have la := ha.len
  have lb := hb.len
  clear ha hb
  rcases Nat.lt_trichotomy xs.length ys.length with h | h | h
  · rw [cmpI_lt (len_lt da db nb h)]
    clear da db na nb
    go_enter Try.func82, Try.ntmps82
    go_wp2
    go_ret
    exact ⟨rfl, Below.refl _ _⟩
  · obtain ⟨n, hn⟩ : ∃ n, n = xs.length := ⟨_, rfl⟩
    have hn' : n = ys.length := hn.trans h
    have HN := Lib.hid hn
    have HN' := Lib.hid hn'
    have e1 : xs.length = n := hn.symm
    have e2 : ys.length = n := hn'.symm
    rw [e1, e2]
    rw [e1] at la
    clear e1 e2 hn hn' h lb
    have D := Lib.hid (And.intro da db)
    clear da db na nb
    go_enter Try.func82, Try.ntmps82
    go_wp2
    go_loopw [5] (fun i wr => ∃ k : Nat, k ≤ n ∧ i = .int .i64 ((k : Int) - 1) ∧ Hid (xs.drop k = ys.drop k) ∧ Below w.heap.size w wr) (fun i _ => (intOf i + 1).toNat)
    case atStart => exact ⟨n, Nat.le_refl _, rfl, (by rw [List.drop_eq_nil_of_le (by rw [HN.out]; exact Nat.le_refl _), List.drop_eq_nil_of_le (by rw [HN'.out]; exact Nat.le_refl _)] : xs.drop n = ys.drop n), Below.refl _ _⟩
    case round =>
      rename_i i0 wr
      obtain ⟨k, hk, rfl, hd, hbl⟩ := hrel
      cases k with
      | zero =>
        have e1 : ((0 : Nat) : Int) - 1 = -1 := by omega
        rw [e1]
        clear e1
        go_wp2
        go_ret
        have e : dval xs = dval ys := by have := hd.out; simp only [List.drop_zero] at this; rw [this]
        exact ⟨by rw [e, cmpI_eq]; rfl, hbl⟩
      | succ j =>
        have e1 : ((j + 1 : Nat) : Int) - 1 = (j : Int) := by omega
        rw [e1]
        clear e1
        have ja : j < xs.length := by rw [← HN.out]; omega
        have jb : j < ys.length := by rw [← HN'.out]; omega
        obtain rfl := HA.out.ptr (by omega)
        obtain rfl := HB.out.ptr (by omega)
        have ba := HA.out.blk (by omega)
        have bb := HB.out.blk (by omega)
        have c0 : wr.cell? ⟨b, j, none⟩ = some (.int .i64 (xs.getD j 0)) := by rw [hbl.cell (p := ⟨b, j, none⟩) ba]; exact HA.out.cell j ja
        have c1 : wr.cell? ⟨b', j, none⟩ = some (.int .i64 (ys.getD j 0)) := by rw [hbl.cell (p := ⟨b', j, none⟩) bb]; exact HB.out.cell j jb
        have JA := Lib.hid (And.intro ja (HN.out.symm.trans HN'.out))
        clear ja jb ba bb
        obtain ⟨x, hx⟩ : ∃ x, x = xs.getD j 0 := ⟨_, rfl⟩
        obtain ⟨y, hy⟩ : ∃ y, y = ys.getD j 0 := ⟨_, rfl⟩
        rw [← hx] at c0
        rw [← hy] at c1
        have HX := Lib.hid hx
        have HY := Lib.hid hy
        clear hx hy
        rcases Int.lt_trichotomy x y with hxy | hxy | hxy
        · go_wp2
          go_quiet (fail)
          go_wp2
          go_ret
          exact ⟨by rw [cmpI_lt (dig_lt D.out.1 D.out.2 JA.out.1 JA.out.2 hd.out (by rw [← HX.out, ← HY.out]; exact hxy))]; rfl, below_drewN hbl _⟩
        · subst hxy
          go_wp2
          go_quiet (fail)
          go_wp2
          go_quiet (fail)
          go_wp2
          go_roundw
          case rel => exact ⟨j, by omega, rfl, drop_eq JA.out.1 JA.out.2 hd.out (by rw [← HX.out, ← HY.out]), below_drewN hbl _⟩
          case measure => simp [intOf]
        · go_wp2
          go_quiet (fail)
          go_wp2
          go_quiet (fail)
          go_wp2
          go_ret
          exact ⟨by rw [cmpI_gt (dig_lt D.out.2 D.out.1 (by rw [← JA.out.2]; exact JA.out.1) JA.out.2.symm hd.out.symm (by rw [← HX.out, ← HY.out]; exact hxy))]; rfl, below_drewN (below_drewN hbl _) _⟩
  · have e : dval ys < dval xs := len_lt db da na h
    rw [cmpI_gt e]
    clear da db na nb e
    go_enter Try.func82, Try.ntmps82
    go_wp2
    go_ret
    exact ⟨rfl, Below.refl _ _⟩

theorem cmpI_neg (x y : Int) : cmpI (-y) (-x) = cmpI x y := by
  rcases Int.lt_trichotomy x y with h | h | h
  · rw [cmpI_lt h, cmpI_lt (by omega)]
  · subst h; rw [cmpI_eq, cmpI_eq]
  · rw [cmpI_gt h, cmpI_gt (by omega)]

set_option maxRecDepth 100000 in
set_option maxHeartbeats 1000000 in
theorem bigCmp_any (v v' : Value) (n m : Int) (L L' : Nat) (w : World) (h : Big w v n L) (h' : Big w v' m L') :
    Calls Try.prog 23 #[v, v'] w fun e w' => e = .returned (.int .i64 (cmpI n m)) ∧ Below w.heap.size w w' := by
  obtain ⟨neg, ao, b, cap, ds, rfl, hs, hd, hn, hz, hv, hl⟩ := h
  obtain ⟨neg', ao', b', cap', ds', rfl, hs', hd', hn', hz', hv', hl'⟩ := h'
  have HV := Lib.hid hv
  have HV' := Lib.hid hv'
  have HS := Lib.hid hs
  have HS' := Lib.hid hs'
  have HD := Lib.hid (And.intro hd (And.intro hn hz))
  have HD' := Lib.hid (And.intro hd' (And.intro hn' hz'))
  clear hz hv hs hd hn hl hz' hv' hs' hd' hn' hl'
  have b0 := (dval_bd HD.out.1).1
  have b0' := (dval_bd HD'.out.1).1
  have pos : neg = true → 0 < dval ds := fun hneg => by
    rcases Int.lt_or_eq_of_le b0 with h | h
    · exact h
    · have := (HD.out.2.2 (norm_zero HD.out.1 HD.out.2.1 h.symm)).1; rw [hneg] at this; cases this
  have pos' : neg' = true → 0 < dval ds' := fun hneg => by
    rcases Int.lt_or_eq_of_le b0' with h | h
    · exact h
    · have := (HD'.out.2.2 (norm_zero HD'.out.1 HD'.out.2.1 h.symm)).1; rw [hneg] at this; cases this
  have PO := Lib.hid pos
  have PO' := Lib.hid pos'
  clear pos pos' b0 b0'
  have bl2 : ∀ c1 c2 : Array Value, Below w.heap.size w ((w.alloc (.cells c1 28)).alloc (.cells c2 28)) := fun c1 c2 => ((Below.refl _ _).alloc (Nat.le_refl _) _).alloc (by simp) _
  have BL := Lib.hid bl2
  clear bl2
  cases neg <;> cases neg'
  · go_enter Try.func23, Try.ntmps23
    go_wp2_with fail
    refine (sizes_any ao ao' b b' cap cap' ds ds' _ (HS.out.of (BL.out _ _)) (HS'.out.of (BL.out _ _)) HD.out.1 HD'.out.1 HD.out.2.1 HD'.out.2.1).mono ?_
    rintro e w2 ⟨rfl, hn⟩
    go_wp2
    go_ret
    exact ⟨by rw [HV.out, HV'.out]; rfl, (BL.out _ _).trans (hn.mono (by simp; omega))⟩
  · go_enter Try.func23, Try.ntmps23
    go_wp2
    go_ret
    refine ⟨?_, BL.out _ _⟩
    have e : m < n := by
      have h1 := (dval_bd HD.out.1).1; have h2 := PO'.out (by trivial)
      rw [HV.out, HV'.out]; simp only [cond_true, cond_false]; omega
    rw [cmpI_gt e]; rfl
  · go_enter Try.func23, Try.ntmps23
    go_wp2
    go_ret
    refine ⟨?_, BL.out _ _⟩
    have e : n < m := by
      have h1 := (dval_bd HD'.out.1).1; have h2 := PO.out (by trivial)
      rw [HV.out, HV'.out]; simp only [cond_true, cond_false]; omega
    rw [cmpI_lt e]; rfl
  · go_enter Try.func23, Try.ntmps23
    go_wp2_with fail
    refine (sizes_any ao' ao b' b cap' cap ds' ds _ (HS'.out.of (BL.out _ _)) (HS.out.of (BL.out _ _)) HD'.out.1 HD.out.1 HD'.out.2.1 HD.out.2.1).mono ?_
    rintro e w2 ⟨rfl, hn⟩
    go_wp2
    go_ret
    exact ⟨by rw [HV.out, HV'.out]; simp only [cond_true, cmpI_neg]; rfl, (BL.out _ _).trans (hn.mono (by simp; omega))⟩

theorem cmpI_sign (x : Int) : cmpI x 0 = x.sign := by
  rcases Int.lt_trichotomy x 0 with h | h | h
  · rw [cmpI_lt h, Int.sign_eq_neg_one_of_neg h]
  · subst h; rw [cmpI_eq]; rfl
  · rw [cmpI_gt h, Int.sign_eq_one_of_pos h]

set_option maxRecDepth 100000 in
theorem bigSign_any (v : Value) (n : Int) (L : Nat) (w : World) (h : Big w v n L) :
    Calls Try.prog 67 #[v] w fun e w' => e = .returned (.int .i64 n.sign) ∧ Below w.heap.size w w' := by
  rw [← cmpI_sign]
  have HB := Lib.hid h
  obtain ⟨neg, ao, b, cap, ds, rfl, h⟩ := h
  clear h
  go_enter Try.func67, Try.ntmps67
  go_wp2_with fail
  refine (bigCmp_any _ _ n 0 L L _ (HB.out.of ((Below.refl _ _).alloc (Nat.le_refl _) _)) (Big.zero _ _)).mono ?_
  rintro e w2 ⟨rfl, hn⟩
  go_wp2
  go_ret
  exact ⟨rfl, ((Below.refl _ _).alloc (Nat.le_refl _) _).trans (hn.mono (by simp))⟩
end Go.Proofs.Ytlcbomjdbdgbmaa
namespace Go.Proofs.Ytlcbomjdbdgbmaa
open Go.RowKit

theorem Sl.cut {w : World} {b cap : Nat} {ds : List Int} (h : Sl w (some ⟨b, 0, none⟩) b cap ds) {j : Nat} (hj : j < ds.length) : Sl w (some ⟨b, 0, none⟩) b cap (ds.take (j + 1)) := by
  have hl : (ds.take (j + 1)).length = j + 1 := by rw [List.length_take]; omega
  have h1 := h.capl
  have h2 := h.len
  refine ⟨fun _ => rfl, fun h => (by cases h), by omega, by omega, h.capb, fun i hi => ?_, fun _ => h.blk (by omega)⟩
  rw [hl] at hi
  rw [h.cell i (by omega)]
  simp [hi]
theorem Sl.below {w w' : World} {ao : Option Addr} {b cap : Nat} {ds : List Int} (h : Sl w ao b cap ds) (hb : Below w.heap.size w w') : Sl w' ao b cap ds := h.of hb

set_option maxRecDepth 100000 in
set_option maxHeartbeats 1000000 in
theorem trim_any (neg : Bool) (ao : Option Addr) (b cap : Nat) (ds : List Int) (w : World) (hs : Sl w ao b cap ds) (hd : DigOk ds) (L : Nat) (hL : ds.length ≤ L) :
    Calls Try.prog 80 #[.agg #[.bool neg, .slice ao ds.length cap]] w (GivesBig w (bif neg then -dval ds else dval ds) L) := by
  have HS := Lib.hid hs
  have HD := Lib.hid hd
  have HL := Lib.hid hL
  have ll := hs.len
  have cl := hs.capl
  have cb := hs.capb
  clear hs hd hL
  obtain ⟨N, hN⟩ : ∃ N, N = ds.length := ⟨_, rfl⟩
  have HN := Lib.hid hN
  rw [← hN] at ll cl ⊢
  clear hN
  go_enter Try.func80, Try.ntmps80
  go_wp2_with fail
  refine name_world ?_
  intro W hW
  have k0 : Blk W w.heap.size #[.bool neg, .slice ao N cap] 28 := by rw [hW]; exact (Blk.new _ _ _).alloc _
  have k1 : Blk W (w.heap.size + 1) #[.bool false, .slice none 0 0] 28 := by rw [hW]; exact Blk.new1 _ _ _ _
  have hb0 : Below w.heap.size w W := by rw [hW]; (repeat (first | exact Below.refl _ _ | refine below_drewN ?_ _ | refine Below.drew ?_ | refine Below.alloc ?_ (by simp) _ | refine Below.alloc ?_ (by simp; omega) _))
  clear hW
  have c0 := k0.cell 0
  have c1 := k0.cell 1
  simp only [List.getElem?_toArray, List.getElem?_cons_zero, List.getElem?_cons_succ] at c0 c1
  have d0 := k1.cell 0
  have d1 := k1.cell 1
  have f0 := k1.free 0
  have f1 := k1.free 1
  simp only [List.getElem?_toArray, List.getElem?_cons_zero, List.getElem?_cons_succ] at d0 d1
  have K0 := Lib.hid k0
  have K1 := Lib.hid k1
  have l0 := k0.lt
  clear k0 k1
  go_loopw [3] (fun i wr => ∃ k : Nat, k ≤ N ∧ i = .int .i64 k ∧ Hid (dval (ds.take k) = dval ds) ∧ W = wr) (fun i _ => (intOf i).toNat)
  case atStart => exact ⟨N, Nat.le_refl _, rfl, (by rw [List.take_of_length_le (by rw [HN.out]; exact Nat.le_refl _)] : dval (ds.take N) = dval ds), rfl⟩
  case round =>
    rename_i i0 wr
    obtain ⟨k, hk, rfl, hd, rfl⟩ := hrel
    cases k with
    | zero =>
      have hz : dval ds = 0 := by have := hd.out; rw [List.take_zero] at this; exact this.symm
      have HZ := Lib.hid hz
      clear hz hd
      go_wp2
      simp [bodyPost, results, Try.results80, go_sem, d0, d1]
      refine ⟨_, rfl, ?_, ?_⟩
      · have e : (bif neg then -dval ds else dval ds) = 0 := by rw [HZ.out]; cases neg <;> rfl
        rw [e]; exact Big.zero _ _
      · refine Below.setCell (Below.setCell hb0 ?_ _) ?_ _ <;> exact Nat.le_succ _
    | succ j =>
      have ja : j < ds.length := by rw [← HN.out]; omega
      obtain rfl := HS.out.ptr (by omega)
      have ba := HS.out.blk (by omega)
      have e0 : W.cell? ⟨b, j, none⟩ = some (.int .i64 (ds.getD j 0)) := by rw [hb0.cell (p := ⟨b, j, none⟩) ba]; exact HS.out.cell j ja
      obtain ⟨x, hx⟩ : ∃ x, x = ds.getD j 0 := ⟨_, rfl⟩
      rw [← hx] at e0
      have HX := Lib.hid hx
      have JA := Lib.hid ja
      clear hx ja ba
      have e1 : ((j + 1 : Nat) : Int) - 1 = (j : Int) := by omega
      by_cases hx0 : x = 0
      · subst hx0
        go_wp2
        go_roundw
        case rel => exact ⟨j, by omega, by go_num, dval_take_zero JA.out HX.out.symm hd.out, trivial⟩
        case measure => simp [intOf]
      · have hx1 : (x == 0) = false := by simpa using hx0
        have HX0 := Lib.hid hx0
        clear hx0
        go_wp2_with fail
        have D0 := Lib.hid d0
        have D1 := Lib.hid d1
        clear d0 d1
        have hj1 : (0 : Int) ≤ ((j + 1 : Nat) : Int) := by omega
        refine wp_region_up W.heap.size 6 [(true, 0), (true, 1), (true, 2), (true, 3), (true, 4), (true, 5)] (by kernel_rfl) (by kernel_rfl) (fun _ _ d _ _ h => by cases d <;> exact h) ?_
        have hb : Below W.heap.size W W.drew := (Below.refl _ _).drew
        iterate 6
          refine wpS_takeL rfl rfl ?_
          go_big_quiet_step (rfl)
          refine wpQuiet_nil ?_
        refine wpS_nil ?_
        simp only [List.drop_succ_cons, List.drop_zero]
        have d0 := D0.out
        have d1 := D1.out
        go_wp2
        simp [bodyPost, results, Try.results80, go_sem, d0, d1]
        have hbl : Below w.heap.size w ((W.setCell ⟨w.heap.size + 1, 0, none⟩ (.bool neg)).setCell ⟨w.heap.size + 1, 1, none⟩ (.slice (some ⟨b, 0, none⟩) (j + 1) cap)).drew := by
          refine (Below.setCell (Below.setCell hb0 ?_ _) ?_ _).drew <;> exact Nat.le_succ _
        have hlen : (ds.take (j + 1)).length = j + 1 := by rw [List.length_take]; have := JA.out; omega
        refine ⟨_, rfl, ⟨neg, some ⟨b, 0, none⟩, b, cap, ds.take (j + 1), by rw [hlen], ?_, HD.out.take _, .inr ?_, fun h => ?_, by rw [hd.out], ?_⟩, hbl⟩
        · exact (HS.out.of hbl).cut JA.out
        · rw [hlen]
          have := HX0.out
          rw [HX.out] at this
          simpa [List.getElem?_take] using this
        · rw [h] at hlen; simp at hlen
        · rw [hlen]; have := HL.out; have := JA.out; omega
end Go.Proofs.Ytlcbomjdbdgbmaa
namespace Go.Proofs.Ytlcbomjdbdgbmaa
open Go.RowKit

theorem info_int : (Try.prog.info? 3).map (fun i => (i.zero, i.size, i.bytes)) = some (some (.int .i64 0), 1, 8) := by kernel_rfl

/-- the digits as Go values -/
def dg (ds : List Int) : List Value := ds.map (Value.int .i64)
theorem dg_snoc (ds : List Int) (d : Int) : dg (ds ++ [d]) = dg ds ++ [.int .i64 d] := by unfold dg; rw [List.map_append]; rfl

theorem own_sl {w : World} {base n : Nat} {v : Value} {ds : List Int} (h : w.ownsRow base 3 1 v n (dg ds)) (hn : ds.length = n) (hl : n < 1073741824) :
    ∃ ao b cap, v = .slice ao ds.length cap ∧ Sl w ao b cap ds := by
  subst hn
  rcases h.2 with ⟨h1, h2⟩ | ⟨g, cap, cur, h1, h2, h3, h4, h5, h6, h7⟩
  · have : ds = [] := List.length_eq_zero_iff.1 h2
    subst this
    exact ⟨none, 0, 0, h1, ⟨fun h => absurd h (Nat.lt_irrefl 0), fun _ => rfl, Nat.le_refl _, by decide, by decide, fun i hi => absurd hi (Nat.not_lt_zero i), fun h => absurd h (Nat.lt_irrefl 0)⟩⟩
  · refine ⟨some ⟨g, 0, none⟩, g, cap, h1, ⟨fun _ => rfl, fun h => (by cases h), h4, hl, by unfold maxLen at h5; omega, fun i hi => ?_, fun _ => (Array.getElem?_eq_some_iff.1 h3).1⟩⟩
    subst h1
    rw [World.ownsRow.cellAt h i (by omega)]
    unfold dg
    simp [hi]

theorem dval_take_succ (ds : List Int) (k : Nat) : dval (ds.take (k + 1)) = dval (ds.take k) + P15 k * ds.getD k 0 := by
  rcases Nat.lt_or_ge k ds.length with h | h
  · rw [List.take_succ_eq_append_getElem h, dval_append, List.length_take, Nat.min_eq_left (by omega), getD_in' h]
    simp [dval]
  · rw [List.take_of_length_le (by omega), List.take_of_length_le h, getD_out h]; simp

/-- one round of more -/
theorem more_step {xs ys ds : List Int} {k : Nat} {cv x y : Int} (hx : x = xs.getD k 0) (hy : y = ys.getD k 0) (b1 : 0 ≤ x ∧ x < 32768) (b2 : 0 ≤ y ∧ y < 32768) (b3 : 0 ≤ cv ∧ cv ≤ 1)
    (h : DigOk ds ∧ ds.length = k ∧ dval ds + P15 k * cv = dval (xs.take k) + dval (ys.take k)) :
    (0 ≤ (cv + x + y) / 32768 ∧ (cv + x + y) / 32768 ≤ 1) ∧ DigOk (ds ++ [(cv + x + y) % 32768]) ∧ (ds ++ [(cv + x + y) % 32768]).length = k + 1 ∧
      dval (ds ++ [(cv + x + y) % 32768]) + P15 (k + 1) * ((cv + x + y) / 32768) = dval (xs.take (k + 1)) + dval (ys.take (k + 1)) := by
  obtain ⟨h1, h2, h3⟩ := h
  refine ⟨by omega, h1.append (DigOk.one (by omega)), by rw [List.length_append, h2]; rfl, ?_⟩
  rw [dval_append, h2, dval_take_succ, dval_take_succ, ← hx, ← hy, P15_succ]
  have e : P15 k * dval [(cv + x + y) % 32768] + 32768 * P15 k * ((cv + x + y) / 32768) = P15 k * (cv + x + y) := by
    have : dval [(cv + x + y) % 32768] = (cv + x + y) % 32768 := by simp [dval]
    rw [this, Int.mul_comm 32768 (P15 k), Int.mul_assoc, ← Int.mul_add, Int.emod_add_mul_ediv]
  rw [Int.mul_add, Int.mul_add] at e
  omega

/-- some slice of digits comes back -/
def GivesDig (w : World) (n : Int) (L : Nat) (e : Ending) (w' : World) : Prop :=
  ∃ (ao : Option Addr) (b cap : Nat) (ds : List Int), e = .returned (.slice ao ds.length cap) ∧ Sl w' ao b cap ds ∧ DigOk ds ∧ dval ds = n ∧ ds.length = L ∧ Below w.heap.size w w'

set_option maxRecDepth 100000 in
set_option maxHeartbeats 4000000 in
theorem more_any (ao bo : Option Addr) (b b' cap cap' : Nat) (xs ys : List Int) (w : World) (ha : Sl w ao b cap xs) (hb : Sl w bo b' cap' ys) (hl1 : xs.length < 536870912) (hl2 : ys.length < 536870912) (da : DigOk xs) (db : DigOk ys) :
    Calls Try.prog 81 #[.slice ao xs.length cap, .slice bo ys.length cap'] w (GivesDig w (dval xs + dval ys) (max xs.length ys.length + 1)) := by
  obtain ⟨i0, hi, hz0, hz1, hz2⟩ := info_parts info_int
  have HA := Lib.hid ha
  have HB := Lib.hid hb
  have D := Lib.hid (And.intro da db)
  have la := hl1
  have lb := hl2
  clear ha hb da db hl1 hl2
  obtain ⟨N, hN⟩ : ∃ N, N = xs.length := ⟨_, rfl⟩
  obtain ⟨M, hM⟩ : ∃ M, M = ys.length := ⟨_, rfl⟩
  have HN := Lib.hid hN
  have HM := Lib.hid hM
  rw [← hN] at la ⊢
  rw [← hM] at lb ⊢
  clear hN hM
  go_enter Try.func81, Try.ntmps81
  go_wp2_with fail
  go_loopw [5, 6, 7] (fun out c i wr => ∃ (k : Nat) (cv : Int) (ds : List Int), (k ≤ N ∨ k ≤ M) ∧ i = .int .i64 k ∧ c = .int .i64 cv ∧ 0 ≤ cv ∧ cv ≤ 1 ∧ wr.ownsRow w.heap.size 3 1 out k (dg ds) ∧
      Hid (DigOk ds ∧ ds.length = k ∧ dval ds + P15 k * cv = dval (xs.take k) + dval (ys.take k)) ∧ Below w.heap.size w wr) (fun _ _ i _ => N + M - (intOf i).toNat)
  case atStart => exact ⟨0, 0, [], .inl (Nat.zero_le _), rfl, rfl, by decide, by decide, World.ownsRow_nil _ _ _ _, ⟨DigOk.nil, rfl, by simp [dval]⟩, Below.refl _ _⟩
  case round =>
    rename_i wr
    obtain ⟨k, cv, ds, hk, rfl, rfl, cv0, cv1, hown, hds, hbl⟩ := hrel
    by_cases h1 : k < N
    · by_cases h2 : k < M
      · have ja : k < xs.length := by rw [← HN.out]; exact h1
        obtain rfl := HA.out.ptr (by omega)
        have e0 : wr.cell? ⟨b, k, none⟩ = some (.int .i64 (xs.getD k 0)) := by rw [hbl.cell (p := ⟨b, k, none⟩) (HA.out.blk (by omega))]; exact HA.out.cell k ja
        clear ja
        have jb : k < ys.length := by rw [← HM.out]; exact h2
        obtain rfl := HB.out.ptr (by omega)
        have e1 : wr.cell? ⟨b', k, none⟩ = some (.int .i64 (ys.getD k 0)) := by rw [hbl.cell (p := ⟨b', k, none⟩) (HB.out.blk (by omega))]; exact HB.out.cell k jb
        clear jb
        obtain ⟨x0, x1⟩ := D.out.1.get k
        obtain ⟨y0, y1⟩ := D.out.2.get k
        obtain ⟨x, hx⟩ : ∃ x, x = xs.getD k 0 := ⟨_, rfl⟩
        obtain ⟨y, hy⟩ : ∃ y, y = ys.getD k 0 := ⟨_, rfl⟩
        rw [← hx] at x0 x1 e0
        rw [← hy] at y0 y1 e1
        have hst := more_step hx hy ⟨x0, x1⟩ ⟨y0, y1⟩ ⟨cv0, cv1⟩ hds.out
        have ST := Lib.hid hst
        have HX := Lib.hid hx
        have HY := Lib.hid hy
        clear hst hx hy hds
        go_wp2_with (at_builtin; refine wpList_append_own _ rfl _ _ 26 rfl w.heap.size 3 i0 (.int .i64 0) 1 8 Try.underlying26 hi hz0 hz1 hz2 rfl (by decide) _ _ _ rfl (hown.alloc _) ⟨wr.heap.size, 0, none⟩ 1 1 [.int .i64 ((cv + x + y) % 32768)] rfl rfl ?c1 ?c2 ?c3 ?c4 ?c5 ?_)
        case c1 =>
          intro j u hj
          match j, hj with
          | 0, hj => simp at hj; subst hj; simp [Addr.add]
        case c2 => intro u hu; simp at hu; subst hu; rfl
        case c3 => unfold maxLen; omega
        case c4 => omega
        case c5 => have := hbl.size; simp; omega
        intro v' w1 hown' hgrow _
        have hb1 : Below w.heap.size w w1 := (hbl.alloc hbl.size _).grown hgrow (by have := hbl.size; simp; omega) (fun k hk => (hown.lt k hk).1)
        rw [← dg_snoc] at hown'
        clear hown hbl hgrow
        go_wp2
        go_roundw
        case rel => exact ⟨k + 1, (cv + x + y) / 32768, _, by omega, by go_num, rfl, ST.out.1.1, ST.out.1.2, hown', ST.out.2, hb1⟩
        case measure => simp [intOf]; omega
      · have ja : k < xs.length := by rw [← HN.out]; exact h1
        obtain rfl := HA.out.ptr (by omega)
        have e0 : wr.cell? ⟨b, k, none⟩ = some (.int .i64 (xs.getD k 0)) := by rw [hbl.cell (p := ⟨b, k, none⟩) (HA.out.blk (by omega))]; exact HA.out.cell k ja
        clear ja
        obtain ⟨x0, x1⟩ := D.out.1.get k
        obtain ⟨y0, y1⟩ := D.out.2.get k
        obtain ⟨x, hx⟩ : ∃ x, x = xs.getD k 0 := ⟨_, rfl⟩
        obtain ⟨y, hy⟩ : ∃ y, y = ys.getD k 0 := ⟨_, rfl⟩
        rw [← hx] at x0 x1 e0
        rw [← hy] at y0 y1
        have hst := more_step hx hy ⟨x0, x1⟩ ⟨y0, y1⟩ ⟨cv0, cv1⟩ hds.out
        have hy0 : y = 0 := hy.trans (getD_out (by rw [← HM.out]; omega))
        subst hy0
        simp only [Int.add_zero] at hst
        have ST := Lib.hid hst
        have HX := Lib.hid hx
        have HY := Lib.hid hy
        clear hst hx hy hds
        go_wp2_with (at_builtin; refine wpList_append_own _ rfl _ _ 26 rfl w.heap.size 3 i0 (.int .i64 0) 1 8 Try.underlying26 hi hz0 hz1 hz2 rfl (by decide) _ _ _ rfl (hown.alloc _) ⟨wr.heap.size, 0, none⟩ 1 1 [.int .i64 ((cv + x) % 32768)] rfl rfl ?c1 ?c2 ?c3 ?c4 ?c5 ?_)
        case c1 =>
          intro j u hj
          match j, hj with
          | 0, hj => simp at hj; subst hj; simp [Addr.add]
        case c2 => intro u hu; simp at hu; subst hu; rfl
        case c3 => unfold maxLen; omega
        case c4 => omega
        case c5 => have := hbl.size; simp; omega
        intro v' w1 hown' hgrow _
        have hb1 : Below w.heap.size w w1 := (hbl.alloc hbl.size _).grown hgrow (by have := hbl.size; simp; omega) (fun k hk => (hown.lt k hk).1)
        rw [← dg_snoc] at hown'
        clear hown hbl hgrow
        go_wp2
        go_roundw
        case rel => exact ⟨k + 1, (cv + x) / 32768, _, by omega, by go_num, rfl, ST.out.1.1, ST.out.1.2, hown', ST.out.2, hb1⟩
        case measure => simp [intOf]; omega
    · by_cases h2 : k < M
      · have jb : k < ys.length := by rw [← HM.out]; exact h2
        obtain rfl := HB.out.ptr (by omega)
        have e1 : wr.cell? ⟨b', k, none⟩ = some (.int .i64 (ys.getD k 0)) := by rw [hbl.cell (p := ⟨b', k, none⟩) (HB.out.blk (by omega))]; exact HB.out.cell k jb
        clear jb
        obtain ⟨x0, x1⟩ := D.out.1.get k
        obtain ⟨y0, y1⟩ := D.out.2.get k
        obtain ⟨x, hx⟩ : ∃ x, x = xs.getD k 0 := ⟨_, rfl⟩
        obtain ⟨y, hy⟩ : ∃ y, y = ys.getD k 0 := ⟨_, rfl⟩
        rw [← hx] at x0 x1
        rw [← hy] at y0 y1 e1
        have hst := more_step hx hy ⟨x0, x1⟩ ⟨y0, y1⟩ ⟨cv0, cv1⟩ hds.out
        have hx0 : x = 0 := hx.trans (getD_out (by rw [← HN.out]; omega))
        subst hx0
        rw [Int.add_zero] at hst
        have ST := Lib.hid hst
        have HX := Lib.hid hx
        have HY := Lib.hid hy
        clear hst hx hy hds
        go_wp2_with (at_builtin; refine wpList_append_own _ rfl _ _ 26 rfl w.heap.size 3 i0 (.int .i64 0) 1 8 Try.underlying26 hi hz0 hz1 hz2 rfl (by decide) _ _ _ rfl (hown.alloc _) ⟨wr.heap.size, 0, none⟩ 1 1 [.int .i64 ((cv + y) % 32768)] rfl rfl ?c1 ?c2 ?c3 ?c4 ?c5 ?_)
        case c1 =>
          intro j u hj
          match j, hj with
          | 0, hj => simp at hj; subst hj; simp [Addr.add]
        case c2 => intro u hu; simp at hu; subst hu; rfl
        case c3 => unfold maxLen; omega
        case c4 => omega
        case c5 => have := hbl.size; simp; omega
        intro v' w1 hown' hgrow _
        have hb1 : Below w.heap.size w w1 := (hbl.alloc hbl.size _).grown hgrow (by have := hbl.size; simp; omega) (fun k hk => (hown.lt k hk).1)
        rw [← dg_snoc] at hown'
        clear hown hbl hgrow
        go_wp2
        go_roundw
        case rel => exact ⟨k + 1, (cv + y) / 32768, _, by omega, by go_num, rfl, ST.out.1.1, ST.out.1.2, hown', ST.out.2, hb1⟩
        case measure => simp [intOf]; omega
      · have ST := Lib.hid hds.out
        clear hds
        go_wp2_with (at_builtin; refine wpList_append_own _ rfl _ _ 26 rfl w.heap.size 3 i0 (.int .i64 0) 1 8 Try.underlying26 hi hz0 hz1 hz2 rfl (by decide) _ _ _ rfl (hown.alloc _) ⟨wr.heap.size, 0, none⟩ 1 1 [.int .i64 cv] rfl rfl ?c1 ?c2 ?c3 ?c4 ?c5 ?_)
        case c1 =>
          intro j u hj
          match j, hj with
          | 0, hj => simp at hj; subst hj; simp [Addr.add]
        case c2 => intro u hu; simp at hu; subst hu; rfl
        case c3 => unfold maxLen; omega
        case c4 => omega
        case c5 => have := hbl.size; simp; omega
        intro v' w1 hown' hgrow _
        have hb1 : Below w.heap.size w w1 := (hbl.alloc hbl.size _).grown hgrow (by have := hbl.size; simp; omega) (fun k hk => (hown.lt k hk).1)
        rw [← dg_snoc] at hown'
        clear hown hbl hgrow
        go_wp2
        go_ret
        obtain ⟨g1, g2, g3⟩ := ST.out
        have gl : (ds ++ [cv]).length = k + 1 := by rw [List.length_append, g2]; rfl
        obtain ⟨ao2, b2, cap2, hv, hsl⟩ := own_sl hown' gl (by omega)
        refine ⟨ao2, b2, cap2, ds ++ [cv], ?_, hsl, g1.append (DigOk.one ⟨cv0, by omega⟩), ?_, ?_, hb1⟩
        · rw [← hv]; rfl
        · rw [dval_append, g2]
          have : dval [cv] = cv := by simp [dval]
          rw [this, g3, List.take_of_length_le (by rw [← HN.out]; omega), List.take_of_length_le (by rw [← HM.out]; omega)]
        · rw [gl]; omega
end Go.Proofs.Ytlcbomjdbdgbmaa
namespace Go.Proofs.Ytlcbomjdbdgbmaa
open Go.RowKit

theorem one_new (w : World) (v : Value) (t : TypeId) : ∀ j u, [v][j]? = some u → (w.alloc (.cells #[v] t)).cell? ((⟨w.heap.size, 0, none⟩ : Addr).add j) = some u := by
  intro j u hj
  match j, hj with
  | 0, hj => simp at hj; subst hj; simp [Addr.add]
theorem one_cell (n : Int) : ∀ u ∈ [Value.int .i64 n], u.oneCell' = true := by intro u hu; simp at hu; subst hu; rfl

/-- one round of less -/
theorem less_step {xs ys ds : List Int} {k : Nat} {bw x y d c : Int} (hx : x = xs.getD k 0) (hy : y = ys.getD k 0) (hd : 0 ≤ d ∧ d < 32768) (hc : d - 32768 * c = x - bw - y)
    (h : DigOk ds ∧ ds.length = k ∧ dval ds - P15 k * bw = dval (xs.take k) - dval (ys.take k)) :
    DigOk (ds ++ [d]) ∧ (ds ++ [d]).length = k + 1 ∧ dval (ds ++ [d]) - P15 (k + 1) * c = dval (xs.take (k + 1)) - dval (ys.take (k + 1)) := by
  obtain ⟨h1, h2, h3⟩ := h
  refine ⟨h1.append (DigOk.one hd), by rw [List.length_append, h2]; rfl, ?_⟩
  rw [dval_append, h2, dval_take_succ, dval_take_succ, ← hx, ← hy, P15_succ]
  have e : P15 k * dval [d] - 32768 * P15 k * c = P15 k * (x - bw - y) := by
    have : dval [d] = d := by simp [dval]
    rw [this, ← hc, Int.mul_comm 32768 (P15 k), Int.mul_assoc, Int.mul_sub]
  rw [Int.mul_sub, Int.mul_sub] at e
  omega

set_option maxRecDepth 100000 in
set_option maxHeartbeats 4000000 in
theorem less_any (ao bo : Option Addr) (b b' cap cap' : Nat) (xs ys : List Int) (w : World) (ha : Sl w ao b cap xs) (hb : Sl w bo b' cap' ys) (hl1 : xs.length < 536870912) (da : DigOk xs) (db : DigOk ys) (hle : ys.length ≤ xs.length) (hge : dval ys ≤ dval xs) :
    Calls Try.prog 83 #[.slice ao xs.length cap, .slice bo ys.length cap'] w (GivesDig w (dval xs - dval ys) xs.length) := by
  obtain ⟨i0, hi, hz0, hz1, hz2⟩ := info_parts info_int
  have HA := Lib.hid ha
  have HB := Lib.hid hb
  have D := Lib.hid (And.intro da db)
  have G := Lib.hid hge
  have la := hl1
  clear ha hb da db hl1 hge
  obtain ⟨N, hN⟩ : ∃ N, N = xs.length := ⟨_, rfl⟩
  obtain ⟨M, hM⟩ : ∃ M, M = ys.length := ⟨_, rfl⟩
  have HN := Lib.hid hN
  have HM := Lib.hid hM
  rw [← hN] at la hle ⊢
  rw [← hM] at hle ⊢
  clear hN hM
  go_enter Try.func83, Try.ntmps83
  go_wp2_with fail
  go_loopw [5, 6, 7] (fun out c i wr => ∃ (k : Nat) (cv : Int) (ds : List Int), k ≤ N ∧ i = .int .i64 k ∧ c = .int .i64 cv ∧ 0 ≤ cv ∧ cv ≤ 1 ∧ wr.ownsRow w.heap.size 3 1 out k (dg ds) ∧
      Hid (DigOk ds ∧ ds.length = k ∧ dval ds - P15 k * cv = dval (xs.take k) - dval (ys.take k)) ∧ Below w.heap.size w wr) (fun _ _ i _ => N - (intOf i).toNat)
  case atStart => exact ⟨0, 0, [], Nat.zero_le _, rfl, rfl, by decide, by decide, World.ownsRow_nil _ _ _ _, ⟨DigOk.nil, rfl, by simp [dval]⟩, Below.refl _ _⟩
  case round =>
    rename_i wr
    obtain ⟨k, cv, ds, hk, rfl, rfl, cv0, cv1, hown, hds, hbl⟩ := hrel
    by_cases h1 : k < N
    · by_cases h2 : k < M
      · have ja : k < xs.length := by rw [← HN.out]; exact h1
        obtain rfl := HA.out.ptr (by omega)
        have e0 : wr.cell? ⟨b, k, none⟩ = some (.int .i64 (xs.getD k 0)) := by rw [hbl.cell (p := ⟨b, k, none⟩) (HA.out.blk (by omega))]; exact HA.out.cell k ja
        clear ja
        have jb : k < ys.length := by rw [← HM.out]; exact h2
        obtain rfl := HB.out.ptr (by omega)
        have e1 : wr.cell? ⟨b', k, none⟩ = some (.int .i64 (ys.getD k 0)) := by rw [hbl.cell (p := ⟨b', k, none⟩) (HB.out.blk (by omega))]; exact HB.out.cell k jb
        clear jb
        obtain ⟨x0, x1⟩ := D.out.1.get k
        obtain ⟨y0, y1⟩ := D.out.2.get k
        obtain ⟨x, hx⟩ : ∃ x, x = xs.getD k 0 := ⟨_, rfl⟩
        obtain ⟨y, hy⟩ : ∃ y, y = ys.getD k 0 := ⟨_, rfl⟩
        rw [← hx] at x0 x1 e0
        rw [← hy] at y0 y1 e1
        by_cases hneg : x - cv - y < 0
        · have hst := less_step (d := x - cv - y + 32768) (c := 1) hx hy (by omega) (by omega) hds.out
          have ST := Lib.hid hst
          have HX := Lib.hid hx
          have HY := Lib.hid hy
          clear hst hx hy hds
          go_wp2_with (at_builtin; refine wpList_append_own _ rfl _ _ 26 rfl w.heap.size 3 i0 (.int .i64 0) 1 8 Try.underlying26 hi hz0 hz1 hz2 rfl (by decide) _ _ _ rfl (hown.alloc _) ⟨wr.heap.size, 0, none⟩ 1 1 [.int .i64 (x - cv - y + 32768)] rfl rfl (one_new _ _ _) (one_cell _) (by unfold maxLen; omega) (by omega) (by have := hbl.size; simp; omega) ?_; intro v' w1 hown' hgrow _)
          have hb1 : Below w.heap.size w w1 := (hbl.alloc hbl.size _).grown hgrow (by have := hbl.size; simp; omega) (fun k hk => (hown.lt k hk).1)
          rw [← dg_snoc] at hown'
          clear hown hbl hgrow
          go_wp2
          go_roundw
          case rel => exact ⟨k + 1, 1, _, by omega, by go_num, rfl, by decide, by decide, hown', ST.out, hb1⟩
          case measure => simp [intOf]; omega
        · have hst := less_step (d := x - cv - y) (c := 0) hx hy (by omega) (by omega) hds.out
          have ST := Lib.hid hst
          have HX := Lib.hid hx
          have HY := Lib.hid hy
          clear hst hx hy hds
          go_wp2_with (at_builtin; refine wpList_append_own _ rfl _ _ 26 rfl w.heap.size 3 i0 (.int .i64 0) 1 8 Try.underlying26 hi hz0 hz1 hz2 rfl (by decide) _ _ _ rfl (hown.alloc _) ⟨wr.heap.size, 0, none⟩ 1 1 [.int .i64 (x - cv - y)] rfl rfl (one_new _ _ _) (one_cell _) (by unfold maxLen; omega) (by omega) (by have := hbl.size; simp; omega) ?_; intro v' w1 hown' hgrow _)
          have hb1 : Below w.heap.size w w1 := (hbl.alloc hbl.size _).grown hgrow (by have := hbl.size; simp; omega) (fun k hk => (hown.lt k hk).1)
          rw [← dg_snoc] at hown'
          clear hown hbl hgrow
          go_wp2
          go_roundw
          case rel => exact ⟨k + 1, 0, _, by omega, by go_num, rfl, by decide, by decide, hown', ST.out, hb1⟩
          case measure => simp [intOf]; omega
      · have ja : k < xs.length := by rw [← HN.out]; exact h1
        obtain rfl := HA.out.ptr (by omega)
        have e0 : wr.cell? ⟨b, k, none⟩ = some (.int .i64 (xs.getD k 0)) := by rw [hbl.cell (p := ⟨b, k, none⟩) (HA.out.blk (by omega))]; exact HA.out.cell k ja
        clear ja
        obtain ⟨x0, x1⟩ := D.out.1.get k
        obtain ⟨y0, y1⟩ := D.out.2.get k
        obtain ⟨x, hx⟩ : ∃ x, x = xs.getD k 0 := ⟨_, rfl⟩
        obtain ⟨y, hy⟩ : ∃ y, y = ys.getD k 0 := ⟨_, rfl⟩
        rw [← hx] at x0 x1 e0
        rw [← hy] at y0 y1
        have hy0 : y = 0 := hy.trans (getD_out (by rw [← HM.out]; omega))
        subst hy0
        by_cases hneg : x - cv < 0
        · have hst := less_step (d := x - cv + 32768) (c := 1) hx hy (by omega) (by omega) hds.out
          have ST := Lib.hid hst
          have HX := Lib.hid hx
          have HY := Lib.hid hy
          clear hst hx hy hds
          go_wp2_with (at_builtin; refine wpList_append_own _ rfl _ _ 26 rfl w.heap.size 3 i0 (.int .i64 0) 1 8 Try.underlying26 hi hz0 hz1 hz2 rfl (by decide) _ _ _ rfl (hown.alloc _) ⟨wr.heap.size, 0, none⟩ 1 1 [.int .i64 (x - cv + 32768)] rfl rfl (one_new _ _ _) (one_cell _) (by unfold maxLen; omega) (by omega) (by have := hbl.size; simp; omega) ?_; intro v' w1 hown' hgrow _)
          have hb1 : Below w.heap.size w w1 := (hbl.alloc hbl.size _).grown hgrow (by have := hbl.size; simp; omega) (fun k hk => (hown.lt k hk).1)
          rw [← dg_snoc] at hown'
          clear hown hbl hgrow
          go_wp2
          go_roundw
          case rel => exact ⟨k + 1, 1, _, by omega, by go_num, rfl, by decide, by decide, hown', ST.out, hb1⟩
          case measure => simp [intOf]; omega
        · have hst := less_step (d := x - cv) (c := 0) hx hy (by omega) (by omega) hds.out
          have ST := Lib.hid hst
          have HX := Lib.hid hx
          have HY := Lib.hid hy
          clear hst hx hy hds
          go_wp2_with (at_builtin; refine wpList_append_own _ rfl _ _ 26 rfl w.heap.size 3 i0 (.int .i64 0) 1 8 Try.underlying26 hi hz0 hz1 hz2 rfl (by decide) _ _ _ rfl (hown.alloc _) ⟨wr.heap.size, 0, none⟩ 1 1 [.int .i64 (x - cv)] rfl rfl (one_new _ _ _) (one_cell _) (by unfold maxLen; omega) (by omega) (by have := hbl.size; simp; omega) ?_; intro v' w1 hown' hgrow _)
          have hb1 : Below w.heap.size w w1 := (hbl.alloc hbl.size _).grown hgrow (by have := hbl.size; simp; omega) (fun k hk => (hown.lt k hk).1)
          rw [← dg_snoc] at hown'
          clear hown hbl hgrow
          go_wp2
          go_roundw
          case rel => exact ⟨k + 1, 0, _, by omega, by go_num, rfl, by decide, by decide, hown', ST.out, hb1⟩
          case measure => simp [intOf]; omega
    · have ST := Lib.hid hds.out
      clear hds
      go_wp2
      go_ret
      obtain ⟨g1, g2, g3⟩ := ST.out
      obtain ⟨ao2, b2, cap2, hv, hsl⟩ := own_sl hown g2 (by omega)
      have hkN : k = xs.length := by rw [← HN.out]; omega
      rw [List.take_of_length_le (by omega), List.take_of_length_le (by rw [← HM.out]; omega)] at g3
      have hbd := dval_bd g1
      rw [g2] at hbd
      have hge := G.out
      have hc : cv = 0 := by
        rcases (show cv = 0 ∨ cv = 1 by omega) with h | h
        · exact h
        · rw [h, Int.mul_one] at g3; omega
      rw [hc, Int.mul_zero, Int.sub_zero] at g3
      exact ⟨ao2, b2, cap2, ds, by rw [← hv]; rfl, hsl, g1, g3, by omega, hbl⟩
end Go.Proofs.Ytlcbomjdbdgbmaa

namespace Go.Proofs.Ytlcbomjdbdgbmaa
open Go.RowKit

theorem Big.shape {w : World} {v : Value} {n : Int} {L : Nat} (h : Big w v n L) : ∃ neg a l c, v = .agg #[.bool neg, .slice a l c] := by
  obtain ⟨neg, ao, b, cap, ds, h1, _⟩ := h
  exact ⟨neg, ao, ds.length, cap, h1⟩
theorem Sl.set2 {w : World} {ao : Option Addr} {b3 cap b : Nat} {ds : List Int} (h : Sl w ao b3 cap ds) {q : Bool} (hd : w.cell? ⟨b, 0, none⟩ = some (.bool q)) (x y : Value) :
    Sl ((w.setCell ⟨b, 0, none⟩ x).setCell ⟨b, 1, none⟩ y) ao b3 cap ds := by
  have hne : 0 < ds.length → b3 ≠ b := by
    intro h0 e
    have := h.cell 0 h0
    rw [e, hd] at this
    simp at this
  refine ⟨h.ptr, h.nil, h.capl, h.len, h.capb, fun i hi => ?_, fun h0 => ?_⟩
  · have hb := hne (by omega)
    have e : (((w.setCell ⟨b, 0, none⟩ x).setCell ⟨b, 1, none⟩ y).heap)[b3]? = w.heap[b3]? := by
      rw [Below.heap_setCell _ _ _ _ hb, Below.heap_setCell _ _ _ _ hb]
    rw [World.cell?_of_block (w := w) (a := ⟨b3, i, none⟩) e]
    exact h.cell i hi
  · rw [size_set, size_set]; exact h.blk h0
theorem Big.set2 {w : World} {v : Value} {n : Int} {L b : Nat} (h : Big w v n L) {q : Bool} (hd : w.cell? ⟨b, 0, none⟩ = some (.bool q)) (x y : Value) : Big ((w.setCell ⟨b, 0, none⟩ x).setCell ⟨b, 1, none⟩ y) v n L := by
  obtain ⟨neg, ao, b3, cap, ds, h1, h2, h3⟩ := h
  exact ⟨neg, ao, b3, cap, ds, h1, h2.set2 hd x y, h3⟩
theorem below_a1 (w : World) (o1 : Obj) : Below w.heap.size w (w.alloc o1) := (Below.refl _ _).alloc (Nat.le_refl _) _
theorem below_a2 (w : World) (o1 o2 : Obj) : Below w.heap.size w ((w.alloc o1).alloc o2) := (below_a1 w o1).alloc (by simp) _
theorem below_a3 (w : World) (o1 o2 o3 : Obj) : Below w.heap.size w (((w.alloc o1).alloc o2).alloc o3) := (below_a2 w o1 o2).alloc (by simp; omega) _
theorem set2_below {w W : World} {B b : Nat} (h : Below B W w) (hB : B ≤ b) (x y : Value) : Below B W ((w.setCell ⟨b, 0, none⟩ x).setCell ⟨b, 1, none⟩ y) := (h.setCell hB x).setCell hB y

set_option maxRecDepth 100000 in
set_option maxHeartbeats 600000 in
theorem bigAdd_same (neg : Bool) (ao bo : Option Addr) (b b' cap cap' : Nat) (xs ys : List Int) (w : World) (ha : Sl w ao b cap xs) (hb : Sl w bo b' cap' ys) (da : DigOk xs) (db : DigOk ys)
    (hl1 : xs.length < 268435456) (hl2 : ys.length < 268435456) :
    Calls Try.prog 18 #[.agg #[.bool neg, .slice ao xs.length cap], .agg #[.bool neg, .slice bo ys.length cap']] w
      (GivesBig w (bif neg then -(dval xs + dval ys) else dval xs + dval ys) (max xs.length ys.length + 1)) := by
  have HA := Lib.hid ha
  have HB := Lib.hid hb
  have D := Lib.hid (And.intro da db)
  have HL := Lib.hid (And.intro hl1 hl2)
  clear ha hb da db hl1 hl2
  go_enter Try.func18, Try.ntmps18
  go_wp2_with fail
  refine name_world ?_
  intro W hW
  have k0 : Blk W w.heap.size #[.bool neg, .slice ao xs.length cap] 28 := by rw [hW]; exact ((Blk.new _ _ _).alloc _).alloc _
  have k1 : Blk W (w.heap.size + 1) #[.bool neg, .slice bo ys.length cap'] 28 := by rw [hW]; exact (Blk.new1 _ _ _ _).alloc _
  have k2 : Blk W (w.heap.size + 1 + 1) #[.bool false, .slice none 0 0] 28 := by rw [hW]; exact Blk.new2 _ _ _ _ _
  have hb0 : Below w.heap.size w W := by rw [hW]; exact below_a3 _ _ _ _
  clear hW
  have c0 := k0.cell 0
  have c1 := k0.cell 1
  have d0 := k1.cell 0
  have d1 := k1.cell 1
  simp only [List.getElem?_toArray, List.getElem?_cons_zero, List.getElem?_cons_succ] at c0 c1 d0 d1
  have l0 := k0.lt
  have l1 := k1.lt
  have K2 := Lib.hid k2
  clear k0 k1 k2
  refine wp_region_up W.heap.size 7 [(true, 0), (true, 1), (true, 2), (true, 3), (true, 4), (true, 5), (false, 6)] (by kernel_rfl) (by kernel_rfl) (fun _ _ d _ _ h => by cases d <;> exact h) ?_
  have hb : Below W.heap.size W W.drew := (Below.refl _ _).drew
  iterate 6
    refine wpS_takeL rfl rfl ?_
    go_big_quiet_step (rfl)
    refine wpQuiet_nil ?_
  refine wpS_doL rfl ?_
  intro K hK
  go_wp2_with ((go_at_call 81; refine (more_any ao bo b b' cap cap' xs ys _ (HA.out.of (hb0.trans (hb.mono hb0.size))) (HB.out.of (hb0.trans (hb.mono hb0.size))) (by have := HL.out; omega) (by have := HL.out; omega) D.out.1 D.out.2).mono ?_; rintro e w2 ⟨ao2, b2, cap2, ds2, rfl, hsl2, hdg2, hv2, hl2, hn⟩; have SL := Lib.hid hsl2; have DG := Lib.hid hdg2; have HV := Lib.hid hv2; have HL2 := Lib.hid hl2; clear hsl2 hdg2 hv2 hl2))
  replace hb := hb.trans (hn.mono hb.size)
  refine hK.out _ _ (up_iff.2 hb) ?_
  clear hK K
  clear hn
  refine wpS_nil ?_
  simp only [List.drop_succ_cons, List.drop_zero]
  have hb1 : Below w.heap.size w w2 := hb0.trans (hb.mono hb0.size)
  have k2 : Blk w2 (w.heap.size + 1 + 1) #[.bool false, .slice none 0 0] 28 := K2.out.of hb
  clear c0 c1 d0 d1 l0 l1 K2 hb hb0
  go_wp2_with fail
  refine (trim_any neg ao2 b2 cap2 ds2 _ SL.out DG.out (max xs.length ys.length + 1) (by rw [HL2.out]; exact Nat.le_refl _)).mono ?_
  rintro e w3 ⟨v3, rfl, hbig, hn⟩
  rw [HV.out] at hbig
  have HBG := Lib.hid hbig
  have hvv := hbig.shape
  clear hbig
  obtain ⟨n3, a3, q3, c3, rfl⟩ := hvv
  replace k2 : Blk w3 _ _ _ := k2.of hn
  have d0 := k2.cell 0
  have d1 := k2.cell 1
  have f0 := k2.free 0
  have f1 := k2.free 1
  simp only [List.getElem?_toArray, List.getElem?_cons_zero, List.getElem?_cons_succ] at d0 d1
  have hb2 := hb1.trans (hn.mono hb1.size)
  clear hn k2 hb1
  go_wp2
  simp [bodyPost, results, Try.results18, go_sem, d0, d1]
  refine ⟨_, rfl, ?_, set2_below hb2 ?_ _ _⟩
  · have := HBG.out.set2 d0 (.bool n3) (.slice a3 q3 c3)
    exact this
  · omega
set_option maxRecDepth 100000 in
set_option maxHeartbeats 600000 in
theorem bigAdd_ge (neg : Bool) (ao bo : Option Addr) (b b' cap cap' : Nat) (xs ys : List Int) (w : World) (ha : Sl w ao b cap xs) (hb : Sl w bo b' cap' ys) (da : DigOk xs) (db : DigOk ys) (na : Norm xs) (nb : Norm ys) (hcmp : dval ys ≤ dval xs)
    (hl1 : xs.length < 268435456) (hl2 : ys.length < 268435456) :
    Calls Try.prog 18 #[.agg #[.bool neg, .slice ao xs.length cap], .agg #[.bool (!neg), .slice bo ys.length cap']] w
      (GivesBig w (bif neg then -(dval xs - dval ys) else dval xs - dval ys) xs.length) := by
  have HC := Lib.hid hcmp
  have NN := Lib.hid (And.intro na nb)
  have HA := Lib.hid ha
  have HB := Lib.hid hb
  have D := Lib.hid (And.intro da db)
  have HL := Lib.hid (And.intro hl1 hl2)
  have hle : ys.length ≤ xs.length := by
    rcases Nat.lt_or_ge xs.length ys.length with h | h
    · have := len_lt da db nb h; omega
    · exact h
  have HLE := Lib.hid hle
  clear hle
  clear ha hb da db hl1 hl2 hcmp na nb
  go_enter Try.func18, Try.ntmps18
  cases neg
  · go_wp2_with fail
    refine calls_w ?_
    intro W hW
    have k0 : Blk W w.heap.size #[.bool false, .slice ao xs.length cap] 28 := by rw [hW]; exact ((Blk.new _ _ _).alloc _).alloc _
    have k1 : Blk W (w.heap.size + 1) #[.bool true, .slice bo ys.length cap'] 28 := by rw [hW]; exact (Blk.new1 _ _ _ _).alloc _
    have k2 : Blk W (w.heap.size + 1 + 1) #[.bool false, .slice none 0 0] 28 := by rw [hW]; exact Blk.new2 _ _ _ _ _
    have hb0 : Below w.heap.size w W := by rw [hW]; exact below_a3 _ _ _ _
    clear hW
    refine (sizes_any ao bo b b' cap cap' xs ys _ (HA.out.of hb0) (HB.out.of hb0) D.out.1 D.out.2 NN.out.1 NN.out.2).mono ?_
    rintro e w1 ⟨rfl, hn⟩
    replace k0 : Blk w1 _ _ _ := k0.of hn
    replace k1 : Blk w1 _ _ _ := k1.of hn
    replace k2 : Blk w1 _ _ _ := k2.of hn
    replace hb0 := hb0.trans (hn.mono hb0.size)
    clear hn
    have c0 := k0.cell 0
    have c1 := k0.cell 1
    have d0 := k1.cell 0
    have d1 := k1.cell 1
    simp only [List.getElem?_toArray, List.getElem?_cons_zero, List.getElem?_cons_succ] at c0 c1 d0 d1
    have l0 := k0.lt
    have l1 := k1.lt
    have K2 := Lib.hid k2
    clear k0 k1 k2
    have hsg : decide (0 ≤ cmpI (dval xs) (dval ys)) = true := by
      have := HC.out
      rcases Int.lt_or_eq_of_le this with h | h
      · rw [cmpI_gt h]; rfl
      · rw [h, cmpI_eq]; rfl
    go_wp2_with fail
    refine name_world ?_
    intro W hW
    subst hW
    refine wp_region_up W.heap.size 7 [(true, 0), (true, 1), (true, 2), (true, 3), (true, 4), (true, 5), (false, 6)] (by kernel_rfl) (by kernel_rfl) (fun _ _ d _ _ h => by cases d <;> exact h) ?_
    have hb : Below W.heap.size W W.drew := (Below.refl _ _).drew
    iterate 6
      refine wpS_takeL rfl rfl ?_
      go_big_quiet_step (rfl)
      refine wpQuiet_nil ?_
    refine wpS_doL rfl ?_
    intro K hK
    go_wp2_with ((go_at_call 83; refine (less_any ao bo b b' cap cap' xs ys _ (HA.out.of (hb0.trans (hb.mono hb0.size))) (HB.out.of (hb0.trans (hb.mono hb0.size))) (by have := HL.out; omega) D.out.1 D.out.2 HLE.out HC.out).mono ?_; rintro e w2 ⟨ao2, b2, cap2, ds2, rfl, hsl2, hdg2, hv2, hl2, hn⟩; have SL := Lib.hid hsl2; have DG := Lib.hid hdg2; have HV := Lib.hid hv2; have HL2 := Lib.hid hl2; clear hsl2 hdg2 hv2 hl2))
    replace hb := hb.trans (hn.mono hb.size)
    refine hK.out _ _ (up_iff.2 hb) ?_
    clear hK K
    clear hn
    refine wpS_nil ?_
    simp only [List.drop_succ_cons, List.drop_zero]
    have hb1 : Below w.heap.size w w2 := hb0.trans (hb.mono hb0.size)
    have k2 : Blk w2 (w.heap.size + 1 + 1) #[.bool false, .slice none 0 0] 28 := K2.out.of hb
    clear c0 c1 d0 d1 l0 l1 K2 hb hb0
    go_wp2_with fail
    refine (trim_any _ ao2 b2 cap2 ds2 _ SL.out DG.out xs.length (by rw [HL2.out]; exact Nat.le_refl _)).mono ?_
    rintro e w3 ⟨v3, rfl, hbig, hn⟩
    rw [HV.out] at hbig
    have HBG := Lib.hid hbig
    have hvv := hbig.shape
    clear hbig
    obtain ⟨n3, a3, q3, c3, rfl⟩ := hvv
    replace k2 : Blk w3 _ _ _ := k2.of hn
    have d0 := k2.cell 0
    have d1 := k2.cell 1
    have f0 := k2.free 0
    have f1 := k2.free 1
    simp only [List.getElem?_toArray, List.getElem?_cons_zero, List.getElem?_cons_succ] at d0 d1
    have hb2 := hb1.trans (hn.mono hb1.size)
    clear hn k2 hb1
    go_wp2
    simp [bodyPost, results, Try.results18, go_sem, d0, d1]
    refine ⟨_, rfl, ?_, set2_below hb2 ?_ _ _⟩
    · have := HBG.out.set2 d0 (.bool n3) (.slice a3 q3 c3)
      exact this
    · omega
  · go_wp2_with fail
    refine calls_w ?_
    intro W hW
    have k0 : Blk W w.heap.size #[.bool true, .slice ao xs.length cap] 28 := by rw [hW]; exact ((Blk.new _ _ _).alloc _).alloc _
    have k1 : Blk W (w.heap.size + 1) #[.bool false, .slice bo ys.length cap'] 28 := by rw [hW]; exact (Blk.new1 _ _ _ _).alloc _
    have k2 : Blk W (w.heap.size + 1 + 1) #[.bool false, .slice none 0 0] 28 := by rw [hW]; exact Blk.new2 _ _ _ _ _
    have hb0 : Below w.heap.size w W := by rw [hW]; exact below_a3 _ _ _ _
    clear hW
    refine (sizes_any ao bo b b' cap cap' xs ys _ (HA.out.of hb0) (HB.out.of hb0) D.out.1 D.out.2 NN.out.1 NN.out.2).mono ?_
    rintro e w1 ⟨rfl, hn⟩
    replace k0 : Blk w1 _ _ _ := k0.of hn
    replace k1 : Blk w1 _ _ _ := k1.of hn
    replace k2 : Blk w1 _ _ _ := k2.of hn
    replace hb0 := hb0.trans (hn.mono hb0.size)
    clear hn
    have c0 := k0.cell 0
    have c1 := k0.cell 1
    have d0 := k1.cell 0
    have d1 := k1.cell 1
    simp only [List.getElem?_toArray, List.getElem?_cons_zero, List.getElem?_cons_succ] at c0 c1 d0 d1
    have l0 := k0.lt
    have l1 := k1.lt
    have K2 := Lib.hid k2
    clear k0 k1 k2
    have hsg : decide (0 ≤ cmpI (dval xs) (dval ys)) = true := by
      have := HC.out
      rcases Int.lt_or_eq_of_le this with h | h
      · rw [cmpI_gt h]; rfl
      · rw [h, cmpI_eq]; rfl
    go_wp2_with fail
    refine name_world ?_
    intro W hW
    subst hW
    refine wp_region_up W.heap.size 7 [(true, 0), (true, 1), (true, 2), (true, 3), (true, 4), (true, 5), (false, 6)] (by kernel_rfl) (by kernel_rfl) (fun _ _ d _ _ h => by cases d <;> exact h) ?_
    have hb : Below W.heap.size W W.drew := (Below.refl _ _).drew
    iterate 6
      refine wpS_takeL rfl rfl ?_
      go_big_quiet_step (rfl)
      refine wpQuiet_nil ?_
    refine wpS_doL rfl ?_
    intro K hK
    go_wp2_with ((go_at_call 83; refine (less_any ao bo b b' cap cap' xs ys _ (HA.out.of (hb0.trans (hb.mono hb0.size))) (HB.out.of (hb0.trans (hb.mono hb0.size))) (by have := HL.out; omega) D.out.1 D.out.2 HLE.out HC.out).mono ?_; rintro e w2 ⟨ao2, b2, cap2, ds2, rfl, hsl2, hdg2, hv2, hl2, hn⟩; have SL := Lib.hid hsl2; have DG := Lib.hid hdg2; have HV := Lib.hid hv2; have HL2 := Lib.hid hl2; clear hsl2 hdg2 hv2 hl2))
    replace hb := hb.trans (hn.mono hb.size)
    refine hK.out _ _ (up_iff.2 hb) ?_
    clear hK K
    clear hn
    refine wpS_nil ?_
    simp only [List.drop_succ_cons, List.drop_zero]
    have hb1 : Below w.heap.size w w2 := hb0.trans (hb.mono hb0.size)
    have k2 : Blk w2 (w.heap.size + 1 + 1) #[.bool false, .slice none 0 0] 28 := K2.out.of hb
    clear c0 c1 d0 d1 l0 l1 K2 hb hb0
    go_wp2_with fail
    refine (trim_any _ ao2 b2 cap2 ds2 _ SL.out DG.out xs.length (by rw [HL2.out]; exact Nat.le_refl _)).mono ?_
    rintro e w3 ⟨v3, rfl, hbig, hn⟩
    rw [HV.out] at hbig
    have HBG := Lib.hid hbig
    have hvv := hbig.shape
    clear hbig
    obtain ⟨n3, a3, q3, c3, rfl⟩ := hvv
    replace k2 : Blk w3 _ _ _ := k2.of hn
    have d0 := k2.cell 0
    have d1 := k2.cell 1
    have f0 := k2.free 0
    have f1 := k2.free 1
    simp only [List.getElem?_toArray, List.getElem?_cons_zero, List.getElem?_cons_succ] at d0 d1
    have hb2 := hb1.trans (hn.mono hb1.size)
    clear hn k2 hb1
    go_wp2
    simp [bodyPost, results, Try.results18, go_sem, d0, d1]
    refine ⟨_, rfl, ?_, set2_below hb2 ?_ _ _⟩
    · have := HBG.out.set2 d0 (.bool n3) (.slice a3 q3 c3)
      exact this
    · omega
set_option maxRecDepth 100000 in
set_option maxHeartbeats 600000 in
theorem bigAdd_lt (neg : Bool) (ao bo : Option Addr) (b b' cap cap' : Nat) (xs ys : List Int) (w : World) (ha : Sl w ao b cap xs) (hb : Sl w bo b' cap' ys) (da : DigOk xs) (db : DigOk ys) (na : Norm xs) (nb : Norm ys) (hcmp : dval xs < dval ys)
    (hl1 : xs.length < 268435456) (hl2 : ys.length < 268435456) :
    Calls Try.prog 18 #[.agg #[.bool neg, .slice ao xs.length cap], .agg #[.bool (!neg), .slice bo ys.length cap']] w
      (GivesBig w (bif !neg then -(dval ys - dval xs) else dval ys - dval xs) ys.length) := by
  have HC := Lib.hid hcmp
  have NN := Lib.hid (And.intro na nb)
  have HA := Lib.hid ha
  have HB := Lib.hid hb
  have D := Lib.hid (And.intro da db)
  have HL := Lib.hid (And.intro hl1 hl2)
  have hle : xs.length ≤ ys.length := by
    rcases Nat.lt_or_ge ys.length xs.length with h | h
    · have := len_lt db da na h; omega
    · exact h
  have HLE := Lib.hid hle
  clear hle
  clear ha hb da db hl1 hl2 hcmp na nb
  go_enter Try.func18, Try.ntmps18
  cases neg
  · go_wp2_with fail
    refine calls_w ?_
    intro W hW
    have k0 : Blk W w.heap.size #[.bool false, .slice ao xs.length cap] 28 := by rw [hW]; exact ((Blk.new _ _ _).alloc _).alloc _
    have k1 : Blk W (w.heap.size + 1) #[.bool true, .slice bo ys.length cap'] 28 := by rw [hW]; exact (Blk.new1 _ _ _ _).alloc _
    have k2 : Blk W (w.heap.size + 1 + 1) #[.bool false, .slice none 0 0] 28 := by rw [hW]; exact Blk.new2 _ _ _ _ _
    have hb0 : Below w.heap.size w W := by rw [hW]; exact below_a3 _ _ _ _
    clear hW
    refine (sizes_any ao bo b b' cap cap' xs ys _ (HA.out.of hb0) (HB.out.of hb0) D.out.1 D.out.2 NN.out.1 NN.out.2).mono ?_
    rintro e w1 ⟨rfl, hn⟩
    replace k0 : Blk w1 _ _ _ := k0.of hn
    replace k1 : Blk w1 _ _ _ := k1.of hn
    replace k2 : Blk w1 _ _ _ := k2.of hn
    replace hb0 := hb0.trans (hn.mono hb0.size)
    clear hn
    have c0 := k0.cell 0
    have c1 := k0.cell 1
    have d0 := k1.cell 0
    have d1 := k1.cell 1
    simp only [List.getElem?_toArray, List.getElem?_cons_zero, List.getElem?_cons_succ] at c0 c1 d0 d1
    have l0 := k0.lt
    have l1 := k1.lt
    have K2 := Lib.hid k2
    clear k0 k1 k2
    have hsg : decide (0 ≤ cmpI (dval xs) (dval ys)) = false := by
      have := HC.out
      rw [cmpI_lt this]; rfl
    go_wp2_with fail
    refine name_world ?_
    intro W hW
    subst hW
    refine wp_region_up W.heap.size 7 [(true, 0), (true, 1), (true, 2), (true, 3), (true, 4), (true, 5), (false, 6)] (by kernel_rfl) (by kernel_rfl) (fun _ _ d _ _ h => by cases d <;> exact h) ?_
    have hb : Below W.heap.size W W.drew := (Below.refl _ _).drew
    iterate 6
      refine wpS_takeL rfl rfl ?_
      go_big_quiet_step (rfl)
      refine wpQuiet_nil ?_
    refine wpS_doL rfl ?_
    intro K hK
    go_wp2_with ((go_at_call 83; refine (less_any bo ao b' b cap' cap ys xs _ (HB.out.of (hb0.trans (hb.mono hb0.size))) (HA.out.of (hb0.trans (hb.mono hb0.size))) (by have := HL.out; omega) D.out.2 D.out.1 HLE.out (Int.le_of_lt HC.out)).mono ?_; rintro e w2 ⟨ao2, b2, cap2, ds2, rfl, hsl2, hdg2, hv2, hl2, hn⟩; have SL := Lib.hid hsl2; have DG := Lib.hid hdg2; have HV := Lib.hid hv2; have HL2 := Lib.hid hl2; clear hsl2 hdg2 hv2 hl2))
    replace hb := hb.trans (hn.mono hb.size)
    refine hK.out _ _ (up_iff.2 hb) ?_
    clear hK K
    clear hn
    refine wpS_nil ?_
    simp only [List.drop_succ_cons, List.drop_zero]
    have hb1 : Below w.heap.size w w2 := hb0.trans (hb.mono hb0.size)
    have k2 : Blk w2 (w.heap.size + 1 + 1) #[.bool false, .slice none 0 0] 28 := K2.out.of hb
    clear c0 c1 d0 d1 l0 l1 K2 hb hb0
    go_wp2_with fail
    refine (trim_any _ ao2 b2 cap2 ds2 _ SL.out DG.out ys.length (by rw [HL2.out]; exact Nat.le_refl _)).mono ?_
    rintro e w3 ⟨v3, rfl, hbig, hn⟩
    rw [HV.out] at hbig
    have HBG := Lib.hid hbig
    have hvv := hbig.shape
    clear hbig
    obtain ⟨n3, a3, q3, c3, rfl⟩ := hvv
    replace k2 : Blk w3 _ _ _ := k2.of hn
    have d0 := k2.cell 0
    have d1 := k2.cell 1
    have f0 := k2.free 0
    have f1 := k2.free 1
    simp only [List.getElem?_toArray, List.getElem?_cons_zero, List.getElem?_cons_succ] at d0 d1
    have hb2 := hb1.trans (hn.mono hb1.size)
    clear hn k2 hb1
    go_wp2
    simp [bodyPost, results, Try.results18, go_sem, d0, d1]
    refine ⟨_, rfl, ?_, set2_below hb2 ?_ _ _⟩
    · have := HBG.out.set2 d0 (.bool n3) (.slice a3 q3 c3)
      exact this
    · omega
  · go_wp2_with fail
    refine calls_w ?_
    intro W hW
    have k0 : Blk W w.heap.size #[.bool true, .slice ao xs.length cap] 28 := by rw [hW]; exact ((Blk.new _ _ _).alloc _).alloc _
    have k1 : Blk W (w.heap.size + 1) #[.bool false, .slice bo ys.length cap'] 28 := by rw [hW]; exact (Blk.new1 _ _ _ _).alloc _
    have k2 : Blk W (w.heap.size + 1 + 1) #[.bool false, .slice none 0 0] 28 := by rw [hW]; exact Blk.new2 _ _ _ _ _
    have hb0 : Below w.heap.size w W := by rw [hW]; exact below_a3 _ _ _ _
    clear hW
    refine (sizes_any ao bo b b' cap cap' xs ys _ (HA.out.of hb0) (HB.out.of hb0) D.out.1 D.out.2 NN.out.1 NN.out.2).mono ?_
    rintro e w1 ⟨rfl, hn⟩
    replace k0 : Blk w1 _ _ _ := k0.of hn
    replace k1 : Blk w1 _ _ _ := k1.of hn
    replace k2 : Blk w1 _ _ _ := k2.of hn
    replace hb0 := hb0.trans (hn.mono hb0.size)
    clear hn
    have c0 := k0.cell 0
    have c1 := k0.cell 1
    have d0 := k1.cell 0
    have d1 := k1.cell 1
    simp only [List.getElem?_toArray, List.getElem?_cons_zero, List.getElem?_cons_succ] at c0 c1 d0 d1
    have l0 := k0.lt
    have l1 := k1.lt
    have K2 := Lib.hid k2
    clear k0 k1 k2
    have hsg : decide (0 ≤ cmpI (dval xs) (dval ys)) = false := by
      have := HC.out
      rw [cmpI_lt this]; rfl
    go_wp2_with fail
    refine name_world ?_
    intro W hW
    subst hW
    refine wp_region_up W.heap.size 7 [(true, 0), (true, 1), (true, 2), (true, 3), (true, 4), (true, 5), (false, 6)] (by kernel_rfl) (by kernel_rfl) (fun _ _ d _ _ h => by cases d <;> exact h) ?_
    have hb : Below W.heap.size W W.drew := (Below.refl _ _).drew
    iterate 6
      refine wpS_takeL rfl rfl ?_
      go_big_quiet_step (rfl)
      refine wpQuiet_nil ?_
    refine wpS_doL rfl ?_
    intro K hK
    go_wp2_with ((go_at_call 83; refine (less_any bo ao b' b cap' cap ys xs _ (HB.out.of (hb0.trans (hb.mono hb0.size))) (HA.out.of (hb0.trans (hb.mono hb0.size))) (by have := HL.out; omega) D.out.2 D.out.1 HLE.out (Int.le_of_lt HC.out)).mono ?_; rintro e w2 ⟨ao2, b2, cap2, ds2, rfl, hsl2, hdg2, hv2, hl2, hn⟩; have SL := Lib.hid hsl2; have DG := Lib.hid hdg2; have HV := Lib.hid hv2; have HL2 := Lib.hid hl2; clear hsl2 hdg2 hv2 hl2))
    replace hb := hb.trans (hn.mono hb.size)
    refine hK.out _ _ (up_iff.2 hb) ?_
    clear hK K
    clear hn
    refine wpS_nil ?_
    simp only [List.drop_succ_cons, List.drop_zero]
    have hb1 : Below w.heap.size w w2 := hb0.trans (hb.mono hb0.size)
    have k2 : Blk w2 (w.heap.size + 1 + 1) #[.bool false, .slice none 0 0] 28 := K2.out.of hb
    clear c0 c1 d0 d1 l0 l1 K2 hb hb0
    go_wp2_with fail
    refine (trim_any _ ao2 b2 cap2 ds2 _ SL.out DG.out ys.length (by rw [HL2.out]; exact Nat.le_refl _)).mono ?_
    rintro e w3 ⟨v3, rfl, hbig, hn⟩
    rw [HV.out] at hbig
    have HBG := Lib.hid hbig
    have hvv := hbig.shape
    clear hbig
    obtain ⟨n3, a3, q3, c3, rfl⟩ := hvv
    replace k2 : Blk w3 _ _ _ := k2.of hn
    have d0 := k2.cell 0
    have d1 := k2.cell 1
    have f0 := k2.free 0
    have f1 := k2.free 1
    simp only [List.getElem?_toArray, List.getElem?_cons_zero, List.getElem?_cons_succ] at d0 d1
    have hb2 := hb1.trans (hn.mono hb1.size)
    clear hn k2 hb1
    go_wp2
    simp [bodyPost, results, Try.results18, go_sem, d0, d1]
    refine ⟨_, rfl, ?_, set2_below hb2 ?_ _ _⟩
    · have := HBG.out.set2 d0 (.bool n3) (.slice a3 q3 c3)
      exact this
    · omega
end Go.Proofs.Ytlcbomjdbdgbmaa
namespace Go.Proofs.Ytlcbomjdbdgbmaa
open Go.RowKit
theorem GivesBig.mono {w : World} {n : Int} {L L' : Nat} (hl : L ≤ L') {e : Ending} {w' : World} (h : GivesBig w n L e w') : GivesBig w n L' e w' := by
  obtain ⟨v, h1, h2, h3⟩ := h
  exact ⟨v, h1, h2.mono hl, h3⟩
theorem bigAdd_any (v v' : Value) (n m : Int) (L : Nat) (w : World) (h : Big w v n L) (h' : Big w v' m L) (hL : L < 268435456) :
    Calls Try.prog 18 #[v, v'] w (GivesBig w (n + m) (L + 1)) := by
  obtain ⟨neg, ao, b, cap, ds, rfl, hs, hd, hn, hz, hv, hl⟩ := h
  obtain ⟨neg', ao', b', cap', ds', rfl, hs', hd', hn', hz', hv', hl'⟩ := h'
  by_cases hq : neg' = neg
  · subst hq
    refine (bigAdd_same neg' ao ao' b b' cap cap' ds ds' w hs hs' hd hd' (by omega) (by omega)).mono ?_
    intro e w2 hg
    have hx : n + m = (bif neg' then -(dval ds + dval ds') else dval ds + dval ds') := by
      rw [hv, hv']; cases neg' <;> simp <;> omega
    rw [hx]
    exact hg.mono (by omega)
  · have hq' : neg' = !neg := by cases neg <;> cases neg' <;> simp_all
    subst hq'
    by_cases hc : dval ds' ≤ dval ds
    · refine (bigAdd_ge neg ao ao' b b' cap cap' ds ds' w hs hs' hd hd' hn hn' hc (by omega) (by omega)).mono ?_
      intro e w2 hg
      have hx : n + m = (bif neg then -(dval ds - dval ds') else dval ds - dval ds') := by
        rw [hv, hv']; cases neg <;> simp <;> omega
      rw [hx]
      exact hg.mono (by omega)
    · refine (bigAdd_lt neg ao ao' b b' cap cap' ds ds' w hs hs' hd hd' hn hn' (by omega) (by omega) (by omega)).mono ?_
      intro e w2 hg
      have hx : n + m = (bif !neg then -(dval ds' - dval ds) else dval ds' - dval ds) := by
        rw [hv, hv']; cases neg <;> simp <;> omega
      rw [hx]
      exact hg.mono (by omega)
end Go.Proofs.Ytlcbomjdbdgbmaa
namespace Go.Proofs.Ytlcbomjdbdgbmaa
open Go.RowKit
set_option maxRecDepth 100000 in
set_option maxHeartbeats 600000 in
theorem bigSub_any (v v' : Value) (n m : Int) (L : Nat) (w : World) (h : Big w v n L) (h' : Big w v' m L) (hL : L < 268435456) :
    Calls Try.prog 68 #[v, v'] w (GivesBig w (n - m) (L + 1)) := by
  have hv := h.shape
  have hv' := h'.shape
  obtain ⟨n1, a1, q1, e1, rfl⟩ := hv
  obtain ⟨n2, a2, q2, e2, rfl⟩ := hv'
  have HA := Lib.hid h
  have HB := Lib.hid h'
  have HL := Lib.hid hL
  clear h h' hL
  go_enter Try.func68, Try.ntmps68
  go_wp2_with fail
  refine name_world ?_
  intro W hW
  have k0 : Blk W w.heap.size #[.bool n1, .slice a1 q1 e1] 28 := by rw [hW]; exact ((Blk.new _ _ _).alloc _).alloc _
  have k1 : Blk W (w.heap.size + 1) #[.bool n2, .slice a2 q2 e2] 28 := by rw [hW]; exact (Blk.new1 _ _ _ _).alloc _
  have k2 : Blk W (w.heap.size + 1 + 1) #[.bool false, .slice none 0 0] 28 := by rw [hW]; exact Blk.new2 _ _ _ _ _
  have hb0 : Below w.heap.size w W := by rw [hW]; exact below_a3 _ _ _ _
  clear hW
  have c0 := k0.cell 0
  have c1 := k0.cell 1
  have d0 := k1.cell 0
  have d1 := k1.cell 1
  simp only [List.getElem?_toArray, List.getElem?_cons_zero, List.getElem?_cons_succ] at c0 c1 d0 d1
  have l0 := k0.lt
  have l1 := k1.lt
  have K2 := Lib.hid k2
  clear k0 k1 k2
  refine wp_region_up W.heap.size 3 [(true, 0), (true, 1), (false, 2)] (by kernel_rfl) (by kernel_rfl) (fun _ _ d _ _ h => by cases d <;> exact h) ?_
  have hb : Below W.heap.size W W.drew := (Below.refl _ _).drew
  iterate 2
    refine wpS_takeL rfl rfl ?_
    go_big_quiet_step (rfl)
    refine wpQuiet_nil ?_
  refine wpS_doL rfl ?_
  intro K hK
  go_wp2_with ((go_at_call 25; refine (Minus_any _ m L _ (HB.out.of (hb0.trans (hb.mono hb0.size)))).mono ?_; rintro e w2 ⟨vm, rfl, hbm, hn⟩; have HM := Lib.hid hbm; have hvm := hbm.shape; clear hbm; obtain ⟨n3, a3, q3, e3, rfl⟩ := hvm))
  replace hb := hb.trans (hn.mono hb.size)
  refine hK.out _ _ (up_iff.2 hb) ?_
  clear hK K
  clear hn
  refine wpS_nil ?_
  simp only [List.drop_succ_cons, List.drop_zero]
  have hb1 : Below w.heap.size w w2 := hb0.trans (hb.mono hb0.size)
  have k2 : Blk w2 (w.heap.size + 1 + 1) #[.bool false, .slice none 0 0] 28 := K2.out.of hb
  clear c0 c1 d0 d1 l0 l1 K2 hb hb0
  go_wp2_with ((go_at_call 18; refine (bigAdd_any _ _ n (-m) L _ (HA.out.of hb1) HM.out HL.out).mono ?_; rintro e w3 ⟨v3, rfl, hbig, hn⟩; have HBG := Lib.hid hbig; have hvv := hbig.shape; clear hbig; obtain ⟨n4, a4, q4, e4, rfl⟩ := hvv; replace k2 : Blk w3 _ _ _ := k2.of hn; have d0 := k2.cell 0; have d1 := k2.cell 1; have f0 := k2.free 0; have f1 := k2.free 1; simp only [List.getElem?_toArray, List.getElem?_cons_zero, List.getElem?_cons_succ] at d0 d1; have hb2 := hb1.trans (hn.mono hb1.size); clear hn k2 hb1))
  simp [bodyPost, results, Try.results68, go_sem, d0, d1]
  refine ⟨_, rfl, ?_, set2_below hb2 ?_ _ _⟩
  · have := HBG.out.set2 d0 (.bool n4) (.slice a4 q4 e4)
    rw [show n + -m = n - m from by omega] at this
    exact this
  · omega
end Go.Proofs.Ytlcbomjdbdgbmaa
namespace Go.Proofs.Ytlcbomjdbdgbmaa

/-- the number of some words -/
def uval : List Int → Int
  | [] => 0
  | d :: t => d + 18446744073709551616 * uval t
def WordsOk (ws : List Int) : Prop := ∀ d ∈ ws, Wd d
theorem uval_bd {ws : List Int} (h : WordsOk ws) : 0 ≤ uval ws ∧ uval ws < 2 ^ (64 * ws.length) := by
  induction ws with
  | nil => simp [uval]
  | cons d t ih =>
    have h1 := ih fun x hx => h x (List.mem_cons_of_mem _ hx)
    obtain ⟨h2, h3⟩ := h d (List.mem_cons_self ..)
    have e : (2 : Int) ^ (64 * (d :: t).length) = 18446744073709551616 * 2 ^ (64 * t.length) := by
      rw [List.length_cons, Nat.mul_add, Int.pow_add, Int.mul_comm]; rfl
    rw [e, uval]; omega
theorem p2_pos (n : Nat) : (0 : Int) < 2 ^ n := Int.pow_pos (by decide)
theorem uval_bit {ws : List Int} (h : WordsOk ws) (i : Nat) : ws.getD (i / 64) 0 / 2 ^ (i % 64) % 2 = uval ws / 2 ^ i % 2 := by
  induction ws generalizing i with
  | nil => simp [uval]
  | cons d t ih =>
    obtain ⟨h2, h3⟩ := h d (List.mem_cons_self ..)
    rcases Nat.lt_or_ge i 64 with hi | hi
    · have e1 : i / 64 = 0 := by omega
      have e2 : i % 64 = i := by omega
      rw [e1, e2, uval]
      have e3 : (18446744073709551616 : Int) * uval t = 2 ^ i * (2 * (2 ^ (63 - i) * uval t)) := by
        have : (18446744073709551616 : Int) = 2 ^ i * 2 ^ 1 * 2 ^ (63 - i) := by
          rw [← Int.pow_add, ← Int.pow_add, show i + 1 + (63 - i) = 64 by omega]; rfl
        rw [this]; simp only [Int.mul_assoc, Int.pow_succ, Int.pow_zero, Int.one_mul]
      rw [e3, Int.add_mul_ediv_left _ _ (Int.ne_of_gt (p2_pos i)), Int.add_mul_emod_self_left]
      rfl
    · obtain ⟨k, rfl⟩ : ∃ k, i = 64 + k := ⟨i - 64, by omega⟩
      have e1 : (64 + k) / 64 = k / 64 + 1 := by omega
      have e2 : (64 + k) % 64 = k % 64 := by omega
      rw [e1, e2, uval]
      have e3 : (d + 18446744073709551616 * uval t) / 2 ^ (64 + k) = uval t / 2 ^ k := by
        rw [← ediv_pow]
        have e4 : (d + 18446744073709551616 * uval t) / 2 ^ 64 = uval t := by
          have : (2 : Int) ^ 64 = 18446744073709551616 := rfl
          rw [this]; omega
        rw [e4]
      rw [e3]
      exact ih (fun x hx => h x (List.mem_cons_of_mem _ hx)) k

theorem P15_two (n : Nat) : P15 n = 2 ^ (15 * n) := by
  induction n with
  | zero => rfl
  | succ n ih => rw [P15_succ, ih, Nat.mul_add, Int.pow_add, Int.mul_comm]; rfl
theorem mod_succ (x : Int) (i : Nat) : x % 2 ^ (i + 1) = x % 2 ^ i + x / 2 ^ i % 2 * 2 ^ i := by
  have h1 := Int.emod_add_mul_ediv x (2 ^ i)
  have h2 := Int.emod_add_mul_ediv (x / 2 ^ i) 2
  have p := p2_pos i
  have r0 := Int.emod_nonneg x (Int.ne_of_gt p)
  have r1 := Int.emod_lt_of_pos x p
  have t0 : 0 ≤ x / 2 ^ i % 2 := Int.emod_nonneg _ (by decide)
  have t1 : x / 2 ^ i % 2 < 2 := Int.emod_lt_of_pos _ (by decide)
  have e : (2 : Int) ^ (i + 1) = 2 ^ i * 2 := Int.pow_succ ..
  have b0 : 0 ≤ x / 2 ^ i % 2 * 2 ^ i := Int.mul_nonneg t0 (Int.le_of_lt p)
  have b1 : x / 2 ^ i % 2 * 2 ^ i ≤ 1 * 2 ^ i := Int.mul_le_mul_of_nonneg_right (by omega) (Int.le_of_lt p)
  refine (div_unique (q := x / 2 ^ i / 2) ?_ (by omega) (by omega)).2
  have e5 : (2 : Int) ^ (i + 1) * (x / 2 ^ i / 2) = 2 ^ i * (2 * (x / 2 ^ i / 2)) := by rw [e, Int.mul_assoc]
  have e6 : 2 ^ i * (x / 2 ^ i) = 2 ^ i * (x / 2 ^ i % 2) + 2 ^ i * (2 * (x / 2 ^ i / 2)) := by rw [← Int.mul_add, h2]
  have e7 : x / 2 ^ i % 2 * 2 ^ i = 2 ^ i * (x / 2 ^ i % 2) := Int.mul_comm ..
  omega

/-- the first i bits of N, as digits and what is gathered for the next one -/
structure Gat (N : Int) (i m : Nat) (ds : List Int) (r : Int) : Prop where
  ok : DigOk ds
  pos : i = 15 * ds.length + m
  sum : dval ds + P15 ds.length * r = N % 2 ^ i
  lo : 0 ≤ r
  hi : r < 2 ^ m
theorem Gat.zero (N : Int) : Gat N 0 0 [] 0 := ⟨DigOk.nil, rfl, by simp [dval], by decide, by decide⟩
theorem Gat.bit {N : Int} {i m : Nat} {ds : List Int} {r b : Int} (h : Gat N i m ds r) (hb : b = N / 2 ^ i % 2) :
    dval ds + P15 ds.length * (r + b * 2 ^ m) = N % 2 ^ (i + 1) ∧ 0 ≤ r + b * 2 ^ m ∧ r + b * 2 ^ m < 2 ^ (m + 1) := by
  have p := p2_pos m
  have t0 : 0 ≤ b := hb ▸ Int.emod_nonneg _ (by decide)
  have t1 : b < 2 := hb ▸ Int.emod_lt_of_pos _ (by decide)
  have b0 : 0 ≤ b * 2 ^ m := Int.mul_nonneg t0 (Int.le_of_lt p)
  have b1 : b * 2 ^ m ≤ 1 * 2 ^ m := Int.mul_le_mul_of_nonneg_right (by omega) (Int.le_of_lt p)
  have e : (2 : Int) ^ (m + 1) = 2 ^ m * 2 := Int.pow_succ ..
  have := h.lo; have := h.hi
  refine ⟨?_, by omega, by omega⟩
  rw [mod_succ, ← hb, ← h.sum, Int.mul_add]
  have e2 : (2 : Int) ^ i = P15 ds.length * 2 ^ m := by rw [P15_two, ← Int.pow_add, ← h.pos]
  rw [e2]
  have e3 : b * (P15 ds.length * 2 ^ m) = P15 ds.length * (b * 2 ^ m) := Int.mul_left_comm ..
  omega
theorem Gat.on {N : Int} {i m : Nat} {ds : List Int} {r b : Int} (h : Gat N i m ds r) (hb : b = N / 2 ^ i % 2) : Gat N (i + 1) (m + 1) ds (r + b * 2 ^ m) := by
  obtain ⟨h1, h2, h3⟩ := h.bit hb
  exact ⟨h.ok, by have := h.pos; omega, h1, h2, h3⟩
theorem Gat.next {N : Int} {i : Nat} {ds : List Int} {r b : Int} (h : Gat N i 14 ds r) (hb : b = N / 2 ^ i % 2) : Gat N (i + 1) 0 (ds ++ [r + b * 2 ^ 14]) 0 := by
  obtain ⟨h1, h2, h3⟩ := h.bit hb
  have h3' : r + b * 2 ^ 14 < 32768 := h3
  refine ⟨h.ok.append (DigOk.one ⟨h2, h3'⟩), ?_, ?_, by decide, by decide⟩
  · have := h.pos; rw [List.length_append, List.length_singleton]; omega
  · rw [Int.mul_zero, Int.add_zero, dval_append, ← h1]; simp [dval]
theorem Gat.done {N : Int} {i m : Nat} {ds : List Int} {r : Int} (h : Gat N i m ds r) (hm : m ≤ 14) (h0 : 0 ≤ N) (h1 : N < 2 ^ i) : DigOk (ds ++ [r]) ∧ dval (ds ++ [r]) = N := by
  have e : (2 : Int) ^ m ≤ 2 ^ 14 := by
    have := p2_pos (14 - m); have p := p2_pos m
    have e : (2 : Int) ^ 14 = 2 ^ m * 2 ^ (14 - m) := by rw [← Int.pow_add, show m + (14 - m) = 14 by omega]
    have : (2 : Int) ^ m * 1 ≤ 2 ^ m * 2 ^ (14 - m) := Int.mul_le_mul_of_nonneg_left (by omega) (by omega)
    omega
  have e14 : (2 : Int) ^ 14 = 16384 := rfl
  have := h.lo; have := h.hi
  refine ⟨h.ok.append (DigOk.one ⟨by omega, by omega⟩), ?_⟩
  have := h.sum
  rw [Int.emod_eq_of_lt h0 h1] at this
  rw [dval_append, ← this]; simp [dval]

theorem dval_set {ds : List Int} {j : Nat} (hj : j < ds.length) (v : Int) : dval (ds.set j v) = dval ds + P15 j * (v - ds.getD j 0) := by
  induction ds generalizing j with
  | nil => cases hj
  | cons d t ih =>
    cases j with
    | zero => simp [dval, P15_0]; omega
    | succ j =>
      have hj' : j < t.length := by simpa using hj
      rw [List.set_cons_succ, dval, dval, ih hj', P15_succ, List.getD_cons_succ, Int.mul_add, Int.mul_assoc]; omega
theorem DigOk.set {ds : List Int} (h : DigOk ds) {v : Int} (hv : 0 ≤ v ∧ v < 32768) (j : Nat) : DigOk (ds.set j v) := fun x hx => by
  rcases List.mem_or_eq_of_mem_set hx with h' | h'
  · exact h x h'
  · rw [h']; exact hv
theorem getD_set_ne {ds : List Int} {i j : Nat} (h : i ≠ j) (v : Int) : (ds.set i v).getD j 0 = ds.getD j 0 := by
  simp [List.getD, List.getElem?_set_ne h]
theorem dval_take_succ' (ds : List Int) (k : Nat) : dval (ds.take (k + 1)) = dval (ds.take k) + P15 k * ds.getD k 0 := by
  rcases Nat.lt_or_ge k ds.length with h | h
  · rw [List.take_succ_eq_append_getElem h, dval_append, List.length_take, Nat.min_eq_left (by omega), getD_in' h]
    simp [dval]
  · rw [List.take_of_length_le (by omega), List.take_of_length_le h, getD_out h]; simp

/-- the product so far: all of the first i digits, and of the next one as many as k of the other number's -/
structure Prd (xs ys : List Int) (n i k : Nat) (out : List Int) (c : Int) : Prop where
  ok : DigOk out
  len : out.length = n
  sum : dval out + P15 (i + k) * c = dval (xs.take i) * dval ys + P15 i * (xs.getD i 0 * dval (ys.take k))
  far : ∀ j, i + ys.length ≤ j → out.getD j 0 = 0
  lo : 0 ≤ c
  hi : c ≤ 32767
theorem Prd.start {xs ys : List Int} {n i : Nat} {out : List Int} (h1 : DigOk out) (h2 : out.length = n) (h3 : dval out = dval (xs.take i) * dval ys) (h4 : ∀ j, i + ys.length ≤ j → out.getD j 0 = 0) : Prd xs ys n i 0 out 0 :=
  ⟨h1, h2, by rw [h3]; simp [dval], h4, by decide, by decide⟩
theorem prd_n {a x y c : Int} (ha : 0 ≤ a ∧ a < 32768) (hx : 0 ≤ x ∧ x < 32768) (hy : 0 ≤ y ∧ y < 32768) (hc : 0 ≤ c ∧ c ≤ 32767) :
    0 ≤ x * y ∧ x * y ≤ 1073676289 ∧ 0 ≤ (a + x * y + c) / 32768 ∧ (a + x * y + c) / 32768 ≤ 32767 := by
  have h1 : 0 ≤ x * y := Int.mul_nonneg hx.1 hy.1
  have h2 : x * y ≤ 32767 * 32767 := Int.mul_le_mul (by omega) (by omega) hy.1 (by decide)
  omega
theorem Prd.step {xs ys : List Int} {n i k : Nat} {out : List Int} {c x y a : Int} (h : Prd xs ys n i k out c) (dx : DigOk xs) (dy : DigOk ys) (hk : k < ys.length) (hn : i + ys.length < n)
    (hx : x = xs.getD i 0) (hy : y = ys.getD k 0) (ha : a = out.getD (i + k) 0) :
    Prd xs ys n i (k + 1) (out.set (i + k) ((a + x * y + c) % 32768)) ((a + x * y + c) / 32768) := by
  have b := prd_n (ha ▸ h.ok.get (i + k)) (hx ▸ dx.get i) (hy ▸ dy.get k) ⟨h.lo, h.hi⟩
  refine ⟨h.ok.set (by omega) _, by rw [List.length_set]; exact h.len, ?_, fun j hj => ?_, b.2.2.1, b.2.2.2⟩
  · rw [dval_set (by rw [h.len]; omega), ← ha, dval_take_succ', ← hx, ← hy, ← Nat.add_assoc, P15_succ]
    have e1 := h.sum
    rw [← hx] at e1
    have e2 := Int.emod_add_mul_ediv (a + x * y + c) 32768
    have e3 : 32768 * P15 (i + k) * ((a + x * y + c) / 32768) = P15 (i + k) * (32768 * ((a + x * y + c) / 32768)) := by rw [Int.mul_comm 32768, Int.mul_assoc]
    have e4 : P15 (i + k) * ((a + x * y + c) % 32768 - a) + P15 (i + k) * (32768 * ((a + x * y + c) / 32768)) = P15 (i + k) * (x * y) + P15 (i + k) * c := by
      rw [← Int.mul_add, ← Int.mul_add]
      have e6 : (a + x * y + c) % 32768 - a + 32768 * ((a + x * y + c) / 32768) = x * y + c := by omega
      rw [e6]
    have e5 : P15 i * (x * (dval (ys.take k) + P15 k * y)) = P15 i * (x * dval (ys.take k)) + P15 (i + k) * (x * y) := by
      rw [Int.mul_add, Int.mul_add, P15_add, Int.mul_assoc (P15 i), Int.mul_left_comm x]
    rw [e5, e3]; omega
  · rw [getD_set_ne (by omega)]; exact h.far j hj
theorem Prd.row {xs ys : List Int} {n i : Nat} {out : List Int} {c a : Int} (h : Prd xs ys n i ys.length out c) (hn : i + ys.length < n) (ha : a = out.getD (i + ys.length) 0) :
    Prd xs ys n (i + 1) 0 (out.set (i + ys.length) (a + c)) 0 := by
  have a0 : a = 0 := ha.trans (h.far _ (Nat.le_refl _))
  subst a0
  rw [Int.zero_add]
  refine Prd.start (h.ok.set ⟨h.lo, by have := h.hi; omega⟩ _) (by rw [List.length_set]; exact h.len) ?_ fun j hj => ?_
  · rw [dval_set (by rw [h.len]; omega), ← ha, Int.sub_zero, h.sum, List.take_of_length_le (Nat.le_refl _), dval_take_succ', Int.add_mul, Int.mul_assoc]
  · rw [getD_set_ne (by omega)]; exact h.far j (by omega)
theorem dval_repl (n : Nat) : dval (List.replicate n 0) = 0 := by
  induction n with
  | zero => rfl
  | succ n ih => rw [List.replicate_succ, dval, ih]; rfl
theorem Prd.zero (xs ys : List Int) (n : Nat) : Prd xs ys n 0 0 (List.replicate n 0) 0 := by
  refine Prd.start (fun x hx => by rw [(List.mem_replicate.1 hx).2]; decide) (List.length_replicate ..) (by rw [dval_repl]; simp [dval]) fun j _ => ?_
  rcases Nat.lt_or_ge j n with h | h
  · rw [getD_in' (by rw [List.length_replicate]; exact h)]; simp
  · exact getD_out (by rw [List.length_replicate]; exact h)
theorem Prd.all {xs ys : List Int} {n : Nat} {out : List Int} {c : Int} (h : Prd xs ys n xs.length 0 out c) (hc : c = 0) : DigOk out ∧ dval out = dval xs * dval ys := by
  refine ⟨h.ok, ?_⟩
  have := h.sum
  rw [hc, Int.mul_zero, Int.add_zero, List.take_of_length_le (Nat.le_refl _)] at this
  rw [this]; simp [dval]
end Go.Proofs.Ytlcbomjdbdgbmaa
namespace Go.Proofs.Ytlcbomjdbdgbmaa

end Go.Proofs.Ytlcbomjdbdgbmaa
namespace Go.Proofs.Ytlcbomjdbdgbmaa
open Go.RowKit

/-- a slice of words that holds these -/
structure Ws (w : World) (b : Nat) (ws : List Int) : Prop where
  cell : ∀ i, i < ws.length → w.cell? ⟨b, i, none⟩ = some (.int .u64 (ws.getD i 0))
  blk : b < w.heap.size
  ok : WordsOk ws
  len : ws.length ≤ 4
theorem Ws.of {w w' : World} {b : Nat} {ws : List Int} (h : Ws w b ws) (hb : Below w.heap.size w w') : Ws w' b ws :=
  ⟨fun i hi => by rw [hb.cell (p := ⟨b, i, none⟩) h.blk]; exact h.cell i hi, Nat.lt_of_lt_of_le h.blk hb.size, h.ok, h.len⟩

theorem Blk.grown {w w' : World} {b : Nat} {c : Array Value} {t : TypeId} {row : Option Nat} (h : Blk w b c t) (hg : w.grownBy w' row) (hne : row ≠ some b) : Blk w' b c t := by
  have := hg.block b h.lt (fun e => hne e.symm)
  exact this.trans h
theorem ownsRow_drew {w : World} {base n size : Nat} {e : TypeId} {v : Value} {xs : List Value} (h : w.ownsRow base e size v n xs) : w.drew.ownsRow base e size v n xs := h
theorem words_get {ws : List Int} (h : WordsOk ws) (i : Nat) : Wd (ws.getD i 0) := by
  by_cases hi : i < ws.length
  · rw [getD_in' hi]; exact h _ (List.getElem_mem hi)
  · rw [getD_out (by omega)]; exact ⟨by decide, by decide⟩
theorem p2_le {i j : Nat} (h : i ≤ j) : (2 : Int) ^ i ≤ 2 ^ j := by
  have e : (2 : Int) ^ j = 2 ^ i * 2 ^ (j - i) := by rw [← Int.pow_add, show i + (j - i) = j by omega]
  have := p2_pos (j - i); have p := p2_pos i
  have : (2 : Int) ^ i * 1 ≤ 2 ^ i * 2 ^ (j - i) := Int.mul_le_mul_of_nonneg_left (by omega) (by omega)
  omega
theorem u64_p2 {i : Nat} (h : i < 64) : IntKind.u64.wrap (2 ^ i) = 2 ^ i := by
  have p := p2_pos i
  have e : (2 : Int) ^ 64 = 2 ^ i * 2 ^ (64 - i) := by rw [← Int.pow_add, show i + (64 - i) = 64 by omega]
  have q : (2 : Int) ^ i * 2 ≤ 2 ^ i * 2 ^ (64 - i) := by
    refine Int.mul_le_mul_of_nonneg_left ?_ (Int.le_of_lt p)
    have e2 : (2 : Int) ^ (64 - i) = 2 * 2 ^ (63 - i) := by rw [show 64 - i = (63 - i) + 1 by omega, Int.pow_succ, Int.mul_comm]
    have := p2_pos (63 - i)
    omega
  have e64 : (2 : Int) ^ 64 = 18446744073709551616 := rfl
  have hw : ∀ x : Int, 0 ≤ x → x < 18446744073709551616 → IntKind.u64.wrap x = x := fun x h0 h1 => by simp [IntKind.wrap, IntKind.signed, IntKind.bits]; omega
  exact hw _ (Int.le_of_lt p) (by omega)

set_option maxRecDepth 100000 in
set_option maxHeartbeats 1000000 in
theorem Words_any (b cap n : Nat) (ws : List Int) (w : World) (h : Ws w b ws) (hn : n = ws.length) :
    Calls Try.prog 89 #[.slice (some ⟨b, 0, none⟩) n cap] w (GivesBig w (uval ws) (64 * n / 15 + 1)) := by
  obtain ⟨i0, hi, hz0, hz1, hz2⟩ := info_parts info_int
  have HW := Lib.hid h
  have HN := Lib.hid hn
  have n4 : n ≤ 4 := hn ▸ h.len
  clear h hn
  go_enter Try.func89, Try.ntmps89
  go_wp2_with fail
  refine name_world ?_
  intro W hW
  have k0 : Blk W w.heap.size #[.bool false, .slice none 0 0] 28 := by rw [hW]; exact Blk.new _ _ _
  have hb0 : Below w.heap.size w W := by rw [hW]; exact below_a1 _ _
  clear hW
  go_loopw [3, 4, 5, 6] (fun out room many i wr => ∃ (k m L : Nat) (r : Int) (ds : List Int), k ≤ 64 * n ∧ i = .int .i64 k ∧ many = .int .i64 m ∧ m ≤ 14 ∧ room = .int .u64 r ∧ 0 ≤ r ∧ r < 32768 ∧ L ≤ 18 ∧ wr.ownsRow (w.heap.size + 1) 3 1 out L (dg ds) ∧
      Hid (ds.length = L ∧ Gat (uval ws) k m ds r) ∧ Blk wr w.heap.size #[.bool false, .slice none 0 0] 28 ∧ Below w.heap.size w wr) (fun _ _ _ i _ => 64 * n - (intOf i).toNat)
  case atStart => exact ⟨0, 0, 0, 0, [], Nat.zero_le _, rfl, rfl, by decide, rfl, by decide, by decide, by decide, World.ownsRow_nil _ _ _ _, ⟨rfl, Gat.zero _⟩, k0, hb0⟩
  case round =>
    clear k0 hb0
    rename_i wr
    obtain ⟨k, m, L, r, ds, hk, rfl, rfl, hm, rfl, r0, r1, hL, hown, hds, kr, hbl⟩ := hrel
    by_cases h1 : k < 64 * n
    · have e0 : wr.cell? ⟨b, k / 64, none⟩ = some (.int .u64 (ws.getD (k / 64) 0)) := by rw [hbl.cell (p := ⟨b, k / 64, none⟩) HW.out.blk]; exact HW.out.cell _ (by rw [← HN.out]; omega)
      obtain ⟨x, hx⟩ : ∃ x, x = ws.getD (k / 64) 0 := ⟨_, rfl⟩
      rw [← hx] at e0
      have HX := Lib.hid hx
      have KR := Lib.hid kr
      clear hx kr
      have l0 : b < wr.heap.size := Nat.lt_of_lt_of_le HW.out.blk hbl.size
      go_wp2_with fail
      refine name_world ?_
      intro W hW
      subst hW
      refine wp_region_up W.heap.size 11 [(true, 0), (true, 1), (true, 2), (true, 3), (true, 4), (true, 5), (true, 6), (true, 7), (true, 8), (true, 9), (true, 10)] (by kernel_rfl) (by kernel_rfl) (fun _ _ d _ _ h => by cases d <;> exact h) ?_
      iterate 8
        refine wpS_takeL rfl rfl ?_
        go_big_quiet_step (rfl)
        refine wpQuiet_nil ?_
      obtain ⟨p, hp⟩ : ∃ p : Int, p = IntKind.u64.wrap (2 ^ (k % 64)) := ⟨_, rfl⟩
      rw [← hp]
      have p0 : 0 < p := by rw [hp, u64_p2 (by omega)]; exact p2_pos _
      have HP := Lib.hid hp
      clear hp
      have hxw : Wd x := HX.out ▸ words_get HW.out.ok _
      have x0 := hxw.lo
      have x1 : x ≤ 18446744073709551615 := by have := hxw.hi; omega
      clear hxw
      refine wpS_takeL rfl rfl ?_
      go_big_quiet_step (rfl)
      refine wpQuiet_nil ?_
      obtain ⟨q, hq⟩ : ∃ q : Int, q = x / p := ⟨_, rfl⟩
      rw [← hq]
      have q0 : 0 ≤ q := by rw [hq]; exact Int.ediv_nonneg x0 (Int.le_of_lt p0)
      have q1 : q ≤ 18446744073709551615 := by rw [hq]; exact Int.le_trans (Int.ediv_le_self _ x0) x1
      have HQ := Lib.hid hq
      clear hq x0 x1
      refine wpS_takeL rfl rfl ?_
      go_big_quiet_step (rfl)
      refine wpQuiet_nil ?_
      obtain ⟨t, ht⟩ : ∃ t : Int, t = q % 2 := ⟨_, rfl⟩
      rw [← ht]
      have t0 : 0 ≤ t := by omega
      have t1 : t ≤ 1 := by omega
      have hbit : t = uval ws / 2 ^ k % 2 := by
        rw [ht, HQ.out, HP.out, HX.out, u64_p2 (by omega)]
        exact uval_bit HW.out.ok k
      have HB := Lib.hid hbit
      clear ht hbit q0 q1
      refine wpS_takeL rfl rfl ?_
      go_big_quiet_step (rfl)
      refine wpQuiet_nil ?_
      refine wpS_nil ?_
      simp only [List.drop_succ_cons, List.drop_zero]
      have hst := hds.out.2.bit HB.out
      have r2 : r + t * 2 ^ m < 2 ^ 15 := Int.lt_of_lt_of_le hst.2.2 (p2_le (by omega))
      obtain ⟨r3, hr3⟩ : ∃ r3 : Int, r3 = r + t * 2 ^ m := ⟨_, rfl⟩
      rw [← hr3] at hst r2
      have r30 := hst.2.1
      have r31 : r3 ≤ 32767 := by have : (2 : Int) ^ 15 = 32768 := rfl; omega
      obtain ⟨P, hP⟩ : ∃ P : Int, P = IntKind.u64.wrap (2 ^ m) := ⟨_, rfl⟩
      have hP' : P = 2 ^ m := hP.trans (u64_p2 (by omega))
      have hT : IntKind.u64.wrap (t * P) = r3 - r := by
        rw [show t * P = r3 - r by rw [hP', hr3]; omega]
        have := Int.mul_nonneg t0 (Int.le_of_lt (p2_pos m))
        exact IntWalk.u64_in _ (by omega)
      have hP2 : IntKind.u64.wrap (2 ^ m) = P := hP.symm
      have hR : r + (r3 - r) = r3 := by omega
      have R3 := Lib.hid hr3
      clear hst r2 hr3 hP' hP
      have h15 : ((m : Int) + 1 == 15) = true ∨ ((m : Int) + 1 == 15) = false := by cases ((m : Int) + 1 == 15) <;> simp
      clear e0 l0
      rcases h15 with h15 | h15
      · have m14 : m = 14 := by have := beq_iff_eq.1 h15; omega
        have hst := hds.out.2
        have hlen := hds.out.1
        rw [m14] at hst
        have R4 := R3.out
        rw [m14] at R4
        have ST := Lib.hid (hst.next HB.out)
        rw [← R4] at ST
        have HL := Lib.hid hlen
        have hL' : 15 * L ≤ 256 := by have := hst.pos; omega
        clear hst hlen R4 m14 hds
        go_wp2_with (at_builtin; refine wpList_append_own _ rfl _ _ 26 rfl (w.heap.size + 1) 3 i0 (.int .i64 0) 1 8 Try.underlying26 hi hz0 hz1 hz2 rfl (by decide) _ _ _ rfl ((ownsRow_drew hown).alloc _) ⟨W.heap.size, 0, none⟩ 1 1 [.int .i64 r3] rfl rfl (one_new W.drew _ _) (one_cell _) (by unfold maxLen; omega) (by omega) (by have := hbl.size; have := KR.out.lt; simp; omega) ?_; intro v' w1 hown' hgrow _)
        have hb1 : Below w.heap.size w w1 := (hbl.drew.alloc hbl.size _).grown hgrow (by have := hbl.size; simp; omega) (fun k hk => Nat.le_of_succ_le (hown.lt k hk).1)
        have k1 : Blk w1 w.heap.size #[.bool false, .slice none 0 0] 28 := (KR.out.drew.alloc _).grown hgrow (fun h => Nat.lt_irrefl _ (hown.lt _ h).1)
        rw [← dg_snoc] at hown'
        clear hown hbl hgrow
        go_wp2
        go_roundw
        case rel => exact ⟨k + 1, 0, L + 1, 0, _, by omega, by go_num, rfl, by decide, rfl, by decide, by decide, by omega, hown', ⟨by rw [List.length_append, HL.out]; rfl, ST.out⟩, k1, hb1⟩
        case measure => simp [intOf]; omega
      · have m13 : m + 1 ≤ 14 := by have := beq_eq_false_iff_ne.1 h15; omega
        have ST := Lib.hid (hds.out.2.on HB.out)
        rw [← R3.out] at ST
        have HL := Lib.hid hds.out.1
        have k1 : Blk W.drew w.heap.size #[.bool false, .slice none 0 0] 28 := KR.out.drew
        have K1 := Lib.hid k1
        clear hds k1
        go_wp2
        go_roundw
        case rel => exact ⟨k + 1, m + 1, L, r3, ds, by omega, by go_num, by go_num, by omega, rfl, by omega, by omega, hL, ownsRow_drew hown, ⟨HL.out, ST.out⟩, K1.out, hbl.drew⟩
        case measure => simp [intOf]; omega
    · have hk' : k = 64 * n := by omega
      have HK := Lib.hid hk'
      have KR := Lib.hid kr
      have hL' : 15 * L ≤ 256 := by have := hds.out.2.pos; have := hds.out.1; omega
      have gl : (ds ++ [r]).length = L + 1 := by rw [List.length_append, hds.out.1]; rfl
      have fin := hds.out.2.done hm (uval_bd HW.out.ok).1 (by rw [HK.out, HN.out]; exact (uval_bd HW.out.ok).2)
      have HP := Lib.hid (show (ds ++ [r]).length ≤ 64 * n / 15 + 1 by have := HK.out; have := hds.out.2.pos; have := hds.out.1; omega)
      have FIN := Lib.hid fin
      have GL := Lib.hid gl
      clear hk' kr hds gl fin
      go_wp2_with (at_builtin; refine wpList_append_own _ rfl _ _ 26 rfl (w.heap.size + 1) 3 i0 (.int .i64 0) 1 8 Try.underlying26 hi hz0 hz1 hz2 rfl (by decide) _ _ _ rfl (hown.alloc _) ⟨wr.heap.size, 0, none⟩ 1 1 [.int .i64 r] rfl rfl (one_new _ _ _) (one_cell _) (by unfold maxLen; omega) (by omega) (by have := hbl.size; have := KR.out.lt; simp; omega) ?_; intro v' w1 hown' hgrow _; rw [← dg_snoc] at hown'; obtain ⟨ao2, b2, cap2, hv, hsl⟩ := own_sl hown' GL.out (by omega); subst hv; rw [GL.out]; have hb1 : Below w.heap.size w w1 := (hbl.alloc hbl.size _).grown hgrow (by have := hbl.size; simp; omega) (fun k hk => Nat.le_of_succ_le (hown.lt k hk).1); have k1 : Blk w1 w.heap.size #[.bool false, .slice none 0 0] 28 := (KR.out.alloc _).grown hgrow (fun h => Nat.lt_irrefl _ (hown.lt _ h).1); have SL := Lib.hid hsl; have K1 := Lib.hid k1; clear hown hown' hbl hgrow hsl k1 KR)
      have T := trim_any false ao2 b2 cap2 (ds ++ [r]) w1 SL.out FIN.out.1 (64 * n / 15 + 1) HP.out
      rw [GL.out, FIN.out.2] at T
      refine T.mono ?_
      clear T
      rintro e w3 ⟨v3, rfl, hbig, hn⟩
      have HBG := Lib.hid hbig
      have hvv := hbig.shape
      clear hbig
      obtain ⟨n3, a3, q3, c3, rfl⟩ := hvv
      have k2 : Blk w3 _ _ _ := K1.out.of hn
      have d0 := k2.cell 0
      have d1 := k2.cell 1
      have f0 := k2.free 0
      have f1 := k2.free 1
      simp only [List.getElem?_toArray, List.getElem?_cons_zero, List.getElem?_cons_succ] at d0 d1
      have hb2 := hb1.trans (hn.mono hb1.size)
      clear hn k2 hb1
      go_wp2
      simp [bodyPost, results, Try.results89, go_sem, d0, d1]
      refine ⟨_, rfl, ?_, set2_below hb2 (Nat.le_refl _) _ _⟩
      exact HBG.out.set2 d0 (.bool n3) (.slice a3 q3 c3)
end Go.Proofs.Ytlcbomjdbdgbmaa
namespace Go.Proofs.Ytlcbomjdbdgbmaa
open Go.RowKit

/-- a number that is not too great has not too many digits -/
theorem Big.fit {w : World} {v : Value} {n : Int} {L k : Nat} (h : Big w v n L) (hk : -P15 k < n ∧ n < P15 k) : Big w v n k := by
  obtain ⟨neg, ao, b, cap, ds, h1, h2, h3, h4, h5, h6, h7⟩ := h
  refine ⟨neg, ao, b, cap, ds, h1, h2, h3, h4, h5, h6, norm_len h3 h4 ?_⟩
  cases neg <;> simp at h6 <;> omega
theorem GivesBig.fit {w : World} {n : Int} {L k : Nat} {e : Ending} {w' : World} (h : GivesBig w n L e w') (hk : -P15 k < n ∧ n < P15 k) : GivesBig w n k e w' := by
  obtain ⟨v, h1, h2, h3⟩ := h
  exact ⟨v, h1, h2.fit hk, h3⟩
theorem p2_15 (k : Nat) : (2 : Int) ^ k < P15 (k / 15 + 1) := by
  rw [P15_two]
  have h1 : (2 : Int) ^ k * 2 = 2 ^ (k + 1) := (Int.pow_succ ..).symm
  have h2 := p2_le (show k + 1 ≤ 15 * (k / 15 + 1) by omega)
  have := p2_pos k
  omega
theorem big_one (w : World) : Big (w.alloc (.cells #[.int .i64 1] 3)) (.agg #[.bool false, .slice (some ⟨w.heap.size, 0, none⟩) 1 1]) 1 1 := by
  have hb := Blk.new w #[.int .i64 1] 3
  refine ⟨false, some ⟨w.heap.size, 0, none⟩, w.heap.size, 1, [1], rfl, ⟨fun _ => rfl, fun h => (by cases h), by decide, by decide, by decide, fun i hi => ?_, fun _ => hb.lt⟩, ?_, .inr ?_, fun h => (by cases h), rfl, by decide⟩
  · have : i = 0 := by simp at hi; exact hi
    subst this
    rw [hb.cell]; rfl
  · exact DigOk.one (by decide)
  · decide

set_option maxRecDepth 100000 in
set_option maxHeartbeats 1000000 in
theorem Power_any (n : Nat) (w : World) (hn : n ≤ 256) :
    Calls Try.prog 90 #[.int .i64 n] w (GivesBig w (2 ^ n) (n / 15 + 1)) := by
  go_enter Try.func90, Try.ntmps90
  go_wp2_with fail
  refine name_world ?_
  intro W hW
  have k0 : Blk W w.heap.size #[.bool false, .slice none 0 0] 28 := by rw [hW]; exact ((Blk.new _ _ _).alloc _).alloc _
  have k1 : Blk W (w.heap.size + 1 + 1) #[.bool false, .slice (some ⟨w.heap.size + 1, 0, none⟩) 1 1] 28 := by rw [hW]; exact Blk.new2 _ _ _ _ _
  have hbg : Big W (.agg #[.bool false, .slice (some ⟨w.heap.size + 1, 0, none⟩) 1 1]) 1 1 := by
    rw [hW]
    have := (big_one (w.alloc (.cells #[.bool false, .slice none 0 0] 28))).of (((Below.refl _ _).alloc (Nat.le_refl _) (.cells #[.bool false, .slice (some ⟨w.heap.size + 1, 0, none⟩) 1 1] 28)))
    simpa using this
  have hb0 : Below w.heap.size w W := by rw [hW]; exact below_a3 _ _ _ _
  clear hW
  go_loopw [4] (fun i wr => ∃ (k : Nat) (neg : Bool) (a : Option Addr) (l c : Nat), k ≤ n ∧ i = .int .i64 k ∧ Blk wr w.heap.size #[.bool false, .slice none 0 0] 28 ∧ Blk wr (w.heap.size + 1 + 1) #[.bool neg, .slice a l c] 28 ∧
      Hid (Big wr (.agg #[.bool neg, .slice a l c]) (2 ^ k) (k / 15 + 1)) ∧ Below w.heap.size w wr) (fun i _ => n - (intOf i).toNat)
  case atStart => exact ⟨0, false, _, 1, 1, Nat.zero_le _, rfl, k0, k1, hbg, hb0⟩
  case round =>
    clear k0 k1 hbg hb0
    rename_i wr
    obtain ⟨k, neg, a, l, c, hk, rfl, k0, k1, hbg, hbl⟩ := hrel
    have c0 := k1.cell 0
    have c1 := k1.cell 1
    have f0 := k1.free 0
    have f1 := k1.free 1
    simp only [List.getElem?_toArray, List.getElem?_cons_zero, List.getElem?_cons_succ] at c0 c1
    by_cases h1 : k < n
    · have K0 := Lib.hid k0
      have K1 := Lib.hid k1
      clear k0 k1 f0 f1
      go_wp2_with fail
      refine (bigAdd_any _ _ (2 ^ k) (2 ^ k) (k / 15 + 1) _ hbg.out hbg.out (by omega)).mono ?_
      rintro e w3 ⟨v3, rfl, hbig, hn⟩
      have e2 : (2 : Int) ^ k + 2 ^ k = 2 ^ (k + 1) := by rw [Int.pow_succ]; omega
      rw [e2] at hbig
      have hf := hbig.fit (k := (k + 1) / 15 + 1) ⟨by have := p2_15 (k + 1); have := p2_pos (k + 1); omega, p2_15 (k + 1)⟩
      have HBG := Lib.hid hf
      have hvv := hbig.shape
      clear hbig hf e2 c0 c1
      obtain ⟨n3, a3, q3, c3, rfl⟩ := hvv
      have k0 := K0.out.of hn
      have k1 := K1.out.of hn
      have d0 := k1.cell 0
      have d1 := k1.cell 1
      have f0 := k1.free 0
      have f1 := k1.free 1
      simp only [List.getElem?_toArray, List.getElem?_cons_zero, List.getElem?_cons_succ] at d0 d1
      have hb2 := hbl.trans (hn.mono hbl.size)
      have K0' := Lib.hid k0
      have K1' := Lib.hid k1
      clear hn k0 k1 K0 K1 hbl hbg
      go_wp2
      go_roundw
      case rel =>
        refine ⟨k + 1, n3, a3, q3, c3, by omega, by go_num, (K0'.out.set (by omega) _ _ _).set (by omega) _ _ _, ?_, HBG.out.set2 d0 (.bool n3) (.slice a3 q3 c3), set2_below hb2 (by omega) _ _⟩
        exact (Blk.put K1'.out 0 _).put 1 _
      case measure => simp [intOf]; omega
    · have hk' : k = n := by omega
      subst hk'
      have d0 := k0.cell 0
      have d1 := k0.cell 1
      have f2 := k0.free 0
      have f3 := k0.free 1
      simp only [List.getElem?_toArray, List.getElem?_cons_zero, List.getElem?_cons_succ] at d0 d1
      clear k0 k1
      go_wp2
      simp [bodyPost, results, Try.results90, go_sem, d0, d1]
      exact ⟨_, rfl, hbg.out.set2 d0 (.bool neg) (.slice a l c), set2_below hbl (Nat.le_refl _) _ _⟩
end Go.Proofs.Ytlcbomjdbdgbmaa
namespace Go.Proofs.Ytlcbomjdbdgbmaa
open Go.RowKit

theorem uval_wd (x : Int) : uval [wd0 x, wd1 x, wd2 x, wd3 x] = x % b256 := by
  rw [← un4_wd]
  simp only [uval, un4, b64, b128, b192]; omega
theorem ws_wd (x : Int) : WordsOk [wd0 x, wd1 x, wd2 x, wd3 x] := by
  intro d hd
  simp only [List.mem_cons, List.not_mem_nil, or_false] at hd
  rcases hd with rfl | rfl | rfl | rfl
  · exact wd0_Wd x
  · exact wd1_Wd x
  · exact wd2_Wd x
  · exact wd3_Wd x
theorem sg_neg {x : Int} (h : ng x = true) : x % b256 - b256 = sg x := by
  rw [ng_iff] at h; unfold sg; unfold b255 b256 at *; omega
theorem sg_pos {x : Int} (h : ng x = false) : x % b256 = sg x := by
  have h' : ¬ ng x = true := by rw [h]; exact Bool.false_ne_true
  rw [ng_iff] at h'; unfold sg; unfold b255 b256 at *; omega
theorem ng_ge (x : Int) : decide (9223372036854775808 ≤ wd3 x) = ng x := by
  unfold ng
  have := wd3_Wd x
  obtain ⟨h1, h2⟩ := this
  rw [Bool.eq_iff_iff, decide_eq_true_iff, bne_iff_ne]; omega
theorem p18 : (115792089237316195423570985008687907853269984665640564039457584007913129639936 : Int) < P15 18 := by
  have : P15 18 = 32768 ^ 18 := rfl
  rw [this]; decide
theorem p256 : (2 : Int) ^ 256 = b256 := by decide
theorem sg_p18 (x : Int) : -P15 18 < sg x ∧ sg x < P15 18 := by
  have := sg_bd x; have := p18; unfold b255 at *; omega

theorem ws_new (w : World) (x : Int) : Ws (w.alloc (.cells #[.int .u64 (wd0 x), .int .u64 (wd1 x), .int .u64 (wd2 x), .int .u64 (wd3 x)] 33)) w.heap.size [wd0 x, wd1 x, wd2 x, wd3 x] := by
  have hb := Blk.new w #[.int .u64 (wd0 x), .int .u64 (wd1 x), .int .u64 (wd2 x), .int .u64 (wd3 x)] 33
  refine ⟨fun i hi => ?_, hb.lt, ws_wd x, Nat.le_refl 4⟩
  rw [hb.cell]
  match i, hi with
  | 0, _ => rfl
  | 1, _ => rfl
  | 2, _ => rfl
  | 3, _ => rfl

set_option maxRecDepth 100000 in
set_option maxHeartbeats 1000000 in
theorem Read_b (x : Int) (s : Bool) (w : World) (hx : ng x = s) :
    Calls Try.prog 24 #[wI x] w (GivesBig w (sg x) 18) := by
  have HX := Lib.hid hx
  have hge : decide (9223372036854775808 ≤ wd3 x) = s := (ng_ge x).trans hx
  clear hx
  go_enter Try.func24, Try.ntmps24
  go_wp2_with fail
  refine calls_w ?_
  intro W hW
  have kx : Blk W w.heap.size (wC x) 34 := by rw [hW]; exact ((Blk.new _ _ _).alloc _).alloc _
  have k0 : Blk W (w.heap.size + 1) #[.bool false, .slice none 0 0] 28 := by rw [hW]; exact (Blk.new1 _ _ _ _).alloc _
  have hws : Ws W (w.heap.size + 1 + 1) [wd0 x, wd1 x, wd2 x, wd3 x] := by
    rw [hW]
    have := ws_new ((w.alloc (.cells #[.int .u64 (wd0 x), .int .u64 (wd1 x), .int .u64 (wd2 x), .int .u64 (wd3 x)] 34)).alloc (.cells #[.bool false, .slice none 0 0] 28)) x
    simpa using this
  have hb0 : Below w.heap.size w W := by rw [hW]; exact below_a3 _ _ _ _
  clear hW
  have T := Words_any (w.heap.size + 1 + 1) 4 4 _ W hws rfl
  rw [uval_wd] at T
  refine T.mono ?_
  clear T hws
  rintro e w2 ⟨v2, rfl, hbig, hn⟩
  have hf := hbig.fit (k := 18) ⟨by have := p18; unfold b256; omega, by have := p18; unfold b256; omega⟩
  have HBG := Lib.hid hf
  have hvv := hbig.shape
  clear hbig hf
  obtain ⟨n3, a3, q3, c3, rfl⟩ := hvv
  have kx2 : Blk w2 w.heap.size (wC x) 34 := kx.of hn
  have k2 := k0.of hn
  have hb2 := hb0.trans (hn.mono hb0.size)
  have cx : w2.cell? ⟨w.heap.size, 3, none⟩ = some (.int .u64 (wd3 x)) := kx2.cell 3
  have lx := Blk.lt kx2
  have d0 := k2.cell 0
  have d1 := k2.cell 1
  have f0 := k2.free 0
  have f1 := k2.free 1
  simp only [List.getElem?_toArray, List.getElem?_cons_zero, List.getElem?_cons_succ] at d0 d1
  have l2 := k2.lt
  have K2 := Lib.hid k2
  clear hn kx k0 k2 hb0 kx2
  cases s
  · go_wp2
    simp [bodyPost, results, Try.results24, go_sem, d0, d1, l2]
    refine ⟨_, rfl, ?_, (set2_below hb2 (Nat.le_succ _) _ _).alloc (by rw [size_set, size_set]; exact hb2.size) _⟩
    rw [← sg_pos HX.out]
    exact (HBG.out.set2 d0 (.bool n3) (.slice a3 q3 c3)).of ((Below.refl _ _).alloc (Nat.le_refl _) _)
  · clear d0 d1 f0 f1
    go_wp2_with fail
    refine name_world ?_
    intro W3 hW3
    have kb : Blk W3 w2.heap.size #[.bool n3, .slice a3 q3 c3] 28 := by rw [hW3]; exact Blk.new _ _ _
    have h23 : Below w2.heap.size w2 W3 := by rw [hW3]; exact below_a1 _ _
    clear hW3
    have d0 := kb.cell 0
    have d1 := kb.cell 1
    simp only [List.getElem?_toArray, List.getElem?_cons_zero, List.getElem?_cons_succ] at d0 d1
    have l1 := kb.lt
    have hb3 := hb2.trans (h23.mono hb2.size)
    have HB1 := Lib.hid (HBG.out.of h23)
    have K3 := Lib.hid (K2.out.of h23)
    clear cx lx hge kb l2 K2 h23 HBG hb2
    obtain ⟨W, rfl⟩ : ∃ W, W = W3 := ⟨_, rfl⟩
    refine wp_region_up W.heap.size 2 [(true, 0), (false, 1)] (by kernel_rfl) (by kernel_rfl) (fun _ _ d _ _ h => by cases d <;> exact h) ?_
    have hb : Below W.heap.size W W.drew := (Below.refl _ _).drew
    refine wpS_takeL rfl rfl ?_
    go_big_quiet_step (rfl)
    refine wpQuiet_nil ?_
    refine wpS_doL rfl ?_
    intro K hK
    go_wp2_with ((go_at_call 90; refine (Power_any 256 _ (Nat.le_refl _)).mono ?_; rintro e w4 ⟨vm, rfl, hbm, hn⟩; have HM := Lib.hid hbm; have hvm := hbm.shape; clear hbm; obtain ⟨n4, a4, q4, e4, rfl⟩ := hvm))
    replace hb := hb.trans (hn.mono hb.size)
    refine hK.out _ _ (up_iff.2 hb) ?_
    clear hK K
    clear hn
    refine wpS_nil ?_
    simp only [List.drop_succ_cons, List.drop_zero]
    have hb4 : Below w.heap.size w w4 := hb3.trans (hb.mono hb3.size)
    have k4 := K3.out.of hb
    have HB2 := Lib.hid (HB1.out.of hb)
    clear d0 d1 l1 K3 hb hb3 HB1
    go_wp2_with fail
    refine (bigSub_any _ _ (x % b256) (2 ^ 256) 18 _ HB2.out HM.out (by decide)).mono ?_
    rintro e w5 ⟨v5, rfl, hbig, hn⟩
    rw [p256, sg_neg HX.out] at hbig
    have hf := hbig.fit (k := 18) (sg_p18 x)
    have HBG := Lib.hid hf
    have hvv := hbig.shape
    clear hbig hf
    obtain ⟨n5, a5, q5, c5, rfl⟩ := hvv
    have k5 := k4.of hn
    have d0 := k5.cell 0
    have d1 := k5.cell 1
    have f0 := k5.free 0
    have f1 := k5.free 1
    simp only [List.getElem?_toArray, List.getElem?_cons_zero, List.getElem?_cons_succ] at d0 d1
    have hb5 := hb4.trans (hn.mono hb4.size)
    clear hn k4 k5 hb4 HB2 HM
    go_wp2
    simp [bodyPost, results, Try.results24, go_sem, d0, d1]
    exact ⟨_, rfl, HBG.out.set2 d0 (.bool n5) (.slice a5 q5 c5), set2_below hb5 (Nat.le_succ _) _ _⟩
theorem Read_any (x : Int) (w : World) : Calls Try.prog 24 #[wI x] w (GivesBig w (sg x) 18) := Read_b x _ w rfl
end Go.Proofs.Ytlcbomjdbdgbmaa

namespace Go.Proofs.Ytlcbomjdbdgbmaa
open Go.RowKit

theorem dg_get {ds : List Int} {j : Nat} (h : j < ds.length) : (dg ds).toArray[j]? = some (.int .i64 (ds.getD j 0)) := by
  unfold dg; simp [h]
theorem dg_put (ds : List Int) (j : Nat) (v : Int) : (dg ds).toArray.setIfInBounds j (.int .i64 v) = (dg (ds.set j v)).toArray := by
  unfold dg; rw [List.setIfInBounds_toArray, List.map_set]
theorem dg_zero (n : Nat) : madeCells #[.int .i64 0] n = (dg (List.replicate n 0)).toArray := by
  unfold dg; rw [List.map_replicate, ← toList_madeCells_one]

/-- where the product stands -/
structure MulAt (w : World) (v1 v2 : Array Value) (out : List Int) (n : Nat) (wr : World) : Prop where
  k0 : Blk wr w.heap.size v1 28
  k1 : Blk wr (w.heap.size + 1) v2 28
  k2 : Blk wr (w.heap.size + 1 + 1) #[.bool false, .slice none 0 0] 28
  k3 : Blk wr (w.heap.size + 1 + 1 + 1) (dg out).toArray 3
  len : out.length = n
  below : Below w.heap.size w wr
theorem MulAt.drew {w : World} {v1 v2 : Array Value} {out : List Int} {n : Nat} {wr : World} (h : MulAt w v1 v2 out n wr) : MulAt w v1 v2 out n wr.drew := ⟨h.k0, h.k1, h.k2, h.k3, h.len, h.below.drew⟩
theorem MulAt.put {w : World} {v1 v2 : Array Value} {out : List Int} {n : Nat} {wr : World} (h : MulAt w v1 v2 out n wr) (j : Nat) (v : Int) : MulAt w v1 v2 (out.set j v) n (wr.setCell ⟨w.heap.size + 1 + 1 + 1, j, none⟩ (.int .i64 v)) :=
  ⟨h.k0.set (by omega) _ _ _, h.k1.set (by omega) _ _ _, h.k2.set (by omega) _ _ _, by rw [← dg_put]; exact Blk.put h.k3 _ _, by rw [List.length_set]; exact h.len, h.below.setCell (by show _ ≤ w.heap.size + 1 + 1 + 1; omega) _⟩
theorem MulAt.outc {w : World} {v1 v2 : Array Value} {out : List Int} {n : Nat} {wr : World} (h : MulAt w v1 v2 out n wr) {j : Nat} (hj : j < n) : wr.cell? ⟨w.heap.size + 1 + 1 + 1, j, none⟩ = some (.int .i64 (out.getD j 0)) := by
  rw [h.k3.cell]; exact dg_get (by rw [h.len]; exact hj)

set_option maxRecDepth 100000 in
set_option maxHeartbeats 2000000 in
theorem bigMul_go (neg neg' : Bool) (ao bo : Option Addr) (b b' cap cap' : Nat) (xs ys : List Int) (w : World) (ha : Sl w ao b cap xs) (hb : Sl w bo b' cap' ys) (da : DigOk xs) (db : DigOk ys)
    (hl1 : xs.length < 268435456) (hl2 : ys.length < 268435456) :
    Calls Try.prog 65 #[.agg #[.bool neg, .slice ao xs.length cap], .agg #[.bool neg', .slice bo ys.length cap']] w
      (GivesBig w (bif neg != neg' then -(dval xs * dval ys) else dval xs * dval ys) (xs.length + ys.length + 1)) := by
  have HA := Lib.hid ha
  have HB := Lib.hid hb
  have D := Lib.hid (And.intro da db)
  have la := hl1
  have lb := hl2
  clear ha hb da db hl1 hl2
  obtain ⟨N, hN⟩ : ∃ N, N = xs.length := ⟨_, rfl⟩
  obtain ⟨M, hM⟩ : ∃ M, M = ys.length := ⟨_, rfl⟩
  have HN := Lib.hid hN
  have HM := Lib.hid hM
  rw [← hN] at la ⊢
  rw [← hM] at lb ⊢
  clear hN hM
  have hmk := run_make_row' (P := Try.prog) 26 3 (.int .i64 0) 8 Try.underlying26 info_int rfl .i64 .i64 (N + M + 1) (by omega) (by omega)
  have e1 : ((N + M + 1 : Nat) : Int) = (N : Int) + (M : Int) + 1 := by omega
  rw [e1, dg_zero] at hmk
  clear e1
  go_enter Try.func65, Try.ntmps65
  go_wp2_with fail
  clear hmk
  refine name_world ?_
  intro W hW
  have hd0 : MulAt w #[.bool neg, .slice ao N cap] #[.bool neg', .slice bo M cap'] (List.replicate (N + M + 1) 0) (N + M + 1) W := by
    rw [hW]
    exact ⟨((Blk.new _ _ _).alloc _).alloc _ |>.alloc _, ((Blk.new1 _ _ _ _).alloc _).alloc _, (Blk.new2 _ _ _ _ _).alloc _, Blk.new3 _ _ _ _ _ _, List.length_replicate .., (below_a3 _ _ _ _).alloc (by simp; omega) _⟩
  clear hW
  go_loopw [6] (fun i wr => ∃ (k : Nat) (out : List Int), k ≤ N ∧ i = .int .i64 k ∧ Hid (Prd xs ys (N + M + 1) k 0 out 0) ∧ MulAt w #[.bool neg, .slice ao N cap] #[.bool neg', .slice bo M cap'] out (N + M + 1) wr) (fun i _ => N - (intOf i).toNat)
  case atStart => exact ⟨0, _, Nat.zero_le _, rfl, Prd.zero _ _ _, hd0⟩
  case round =>
    clear hd0 W
    rename_i wr
    obtain ⟨i, out, hi, rfl, hp, hd⟩ := hrel
    have c0 := hd.k0.cell 1
    have c1 := hd.k1.cell 1
    simp only [List.getElem?_toArray, List.getElem?_cons_zero, List.getElem?_cons_succ] at c0 c1
    by_cases h1 : i < N
    · have HD := Lib.hid hd
      clear hd
      go_wp2_with fail
      obtain ⟨wo, rfl⟩ : ∃ wo : World, wo = wr := ⟨_, rfl⟩
      have hd := HD.out
      clear c0 c1 HD
      go_loopw [7, 8] (fun c k wr => ∃ (j : Nat) (cv : Int) (out : List Int), j ≤ M ∧ k = .int .i64 j ∧ c = .int .i64 cv ∧ 0 ≤ cv ∧ cv ≤ 32767 ∧ Hid (Prd xs ys (N + M + 1) i j out cv) ∧ MulAt w #[.bool neg, .slice ao N cap] #[.bool neg', .slice bo M cap'] out (N + M + 1) wr) (fun _ k _ => M - (intOf k).toNat)
      case atStart => exact ⟨0, 0, out, Nat.zero_le _, rfl, rfl, by decide, by decide, hp, hd⟩
      case round =>
        clear hd hp
        rename World => wi
        obtain ⟨j, cv, out, hj, rfl, rfl, cv0, cv1, hp, hd⟩ := hrel
        have c0 := hd.k0.cell 1
        have c1 := hd.k1.cell 1
        simp only [List.getElem?_toArray, List.getElem?_cons_zero, List.getElem?_cons_succ] at c0 c1
        by_cases h2 : j < M
        · have ja : i < xs.length := by rw [← HN.out]; exact h1
          obtain rfl := HA.out.ptr (by omega)
          have e0 : wi.cell? ⟨b, i, none⟩ = some (.int .i64 (xs.getD i 0)) := by rw [hd.below.cell (p := ⟨b, i, none⟩) (HA.out.blk (by omega))]; exact HA.out.cell i ja
          have lb0 : b < wi.heap.size := Nat.lt_of_lt_of_le (HA.out.blk (by omega)) hd.below.size
          clear ja
          have jb : j < ys.length := by rw [← HM.out]; exact h2
          obtain rfl := HB.out.ptr (by omega)
          have e1 : wi.cell? ⟨b', j, none⟩ = some (.int .i64 (ys.getD j 0)) := by rw [hd.below.cell (p := ⟨b', j, none⟩) (HB.out.blk (by omega))]; exact HB.out.cell j jb
          have lb1 : b' < wi.heap.size := Nat.lt_of_lt_of_le (HB.out.blk (by omega)) hd.below.size
          have hst := fun (x y a : Int) (hx : x = xs.getD i 0) (hy : y = ys.getD j 0) (ha : a = out.getD (i + j) 0) => hp.out.step D.out.1 D.out.2 jb (by rw [← HM.out]; omega) hx hy ha
          clear jb
          have e2 := hd.outc (j := i + j) (by omega)
          obtain ⟨x0, x1⟩ := D.out.1.get i
          obtain ⟨y0, y1⟩ := D.out.2.get j
          obtain ⟨a0, a1⟩ := hp.out.ok.get (i + j)
          obtain ⟨x, hx⟩ : ∃ x, x = xs.getD i 0 := ⟨_, rfl⟩
          obtain ⟨y, hy⟩ : ∃ y, y = ys.getD j 0 := ⟨_, rfl⟩
          obtain ⟨a, ha⟩ : ∃ a, a = out.getD (i + j) 0 := ⟨_, rfl⟩
          have ST := Lib.hid (hst x y a hx hy ha)
          clear hst
          rw [← hx] at x0 x1 e0
          rw [← hy] at y0 y1 e1
          rw [← ha] at a0 a1 e2
          clear hx hy ha
          obtain ⟨n0, n1, n2, n3⟩ := prd_n ⟨a0, a1⟩ ⟨x0, x1⟩ ⟨y0, y1⟩ ⟨cv0, cv1⟩
          have f3 := hd.k3.free (i + j)
          have HD := Lib.hid hd
          clear hd hp
          go_wp2_with fail
          refine name_world ?_
          intro W hW
          subst hW
          have lw := HD.out.k0.lt
          have lw1 := HD.out.k1.lt
          have lw3 := HD.out.k3.lt
          refine wp_region_up W.heap.size 19 [(true, 0), (true, 1), (true, 2), (true, 3), (true, 4), (true, 5), (true, 6), (true, 7), (true, 8), (true, 9), (true, 10), (true, 11), (true, 12), (true, 13), (true, 14), (true, 15), (true, 16), (true, 17), (true, 18)] (by kernel_rfl) (by kernel_rfl) (fun _ _ d _ _ h => by cases d <;> exact h) ?_
          have hb : Below W.heap.size W W.drew := (Below.refl _ _).drew
          iterate 19
            refine wpS_takeL rfl rfl ?_
            go_big_quiet_step (rfl)
            refine wpQuiet_nil ?_
          refine wpS_nil ?_
          simp only [List.drop_succ_cons, List.drop_zero]
          clear c0 c1 e0 e1 lw lw1 lw3 lb0 lb1
          go_wp2
          go_roundw
          case rel => exact ⟨j + 1, (a + x * y + cv) / 32768, _, by omega, by go_num, rfl, n2, n3, ST.out, HD.out.drew.put _ _⟩
          case measure => simp [intOf]; omega
        · have hjm : j = M := by omega
          subst hjm
          have e2 := hd.outc (j := i + j) (by omega)
          obtain ⟨a0, a1⟩ := hp.out.ok.get (i + j)
          obtain ⟨a, ha⟩ : ∃ a, a = out.getD (i + j) 0 := ⟨_, rfl⟩
          have hst : Prd xs ys (N + j + 1) (i + 1) 0 (out.set (i + j) (a + cv)) 0 := by
            have e := HM.out
            subst e
            exact hp.out.row (by omega) ha
          rw [← ha] at a0 a1 e2
          have ST := Lib.hid hst
          have f3 := hd.k3.free (i + j)
          have HD := Lib.hid hd
          clear hd hp hst ha
          go_wp2
          go_roundw
          case rel => exact ⟨i + 1, _, by omega, by go_num, ST.out, HD.out.put _ _⟩
          case measure => simp [intOf]; omega
    · have hin : i = N := by omega
      have hp2 : DigOk out ∧ dval out = dval xs * dval ys := by
        have e := hin.trans HN.out
        subst e
        exact hp.out.all rfl
      have HP := Lib.hid hp2
      have hlen := hd.len
      have d2 := hd.k0.cell 0
      have d3 := hd.k1.cell 0
      simp only [List.getElem?_toArray, List.getElem?_cons_zero] at d2 d3
      have hlo : Sl wr (some ⟨w.heap.size + 1 + 1 + 1, 0, none⟩) (w.heap.size + 1 + 1 + 1) (N + M + 1) out := by
        refine ⟨fun _ => rfl, fun h => (by cases h), by omega, by omega, by omega, fun k hk => ?_, fun _ => hd.k3.lt⟩
        rw [hlen] at hk
        exact hd.outc hk
      have SL := Lib.hid hlo
      have HL := Lib.hid hlen
      have HD := Lib.hid hd
      clear hp2 hp hin hlen hlo hd
      go_wp2_with fail
      have T := trim_any (!neg == neg') (some ⟨w.heap.size + 1 + 1 + 1, 0, none⟩) (w.heap.size + 1 + 1 + 1) (N + M + 1) out wr SL.out HP.out.1 (N + M + 1) (Nat.le_of_eq HL.out)
      rw [HL.out, HP.out.2] at T
      refine T.mono ?_
      clear T
      rintro e w3 ⟨v3, rfl, hbig, hn⟩
      have HBG := Lib.hid hbig
      have hvv := hbig.shape
      clear hbig
      obtain ⟨n3, a3, q3, c3, rfl⟩ := hvv
      have k2 := HD.out.k2.of hn
      have hb2 := HD.out.below.trans (hn.mono HD.out.below.size)
      have d4 := k2.cell 0
      have d5 := k2.cell 1
      have f4 := k2.free 0
      have f5 := k2.free 1
      simp only [List.getElem?_toArray, List.getElem?_cons_zero, List.getElem?_cons_succ] at d4 d5
      clear hn k2 c0 c1 d2 d3
      go_wp2
      simp [bodyPost, results, Try.results65, go_sem, d4, d5]
      refine ⟨_, rfl, ?_, set2_below hb2 (by omega) _ _⟩
      have hx : (!neg == neg') = (neg != neg') := by cases neg <;> cases neg' <;> rfl
      rw [← hx]
      exact HBG.out.set2 d4 (.bool n3) (.slice a3 q3 c3)

theorem bigMul_any (v v' : Value) (n m : Int) (L L' : Nat) (w : World) (h : Big w v n L) (h' : Big w v' m L') (hL : L + L' < 268435456) :
    Calls Try.prog 65 #[v, v'] w (GivesBig w (n * m) (L + L')) := by
  obtain ⟨neg, ao, b, cap, ds, rfl, hs, hd, hn, hz, hv, hl⟩ := h
  obtain ⟨neg', ao', b', cap', ds', rfl, hs', hd', hn', hz', hv', hl'⟩ := h'
  refine (bigMul_go neg neg' ao ao' b b' cap cap' ds ds' w hs hs' hd hd' (by omega) (by omega)).mono ?_
  intro e w2 hg
  have hx : n * m = (bif neg != neg' then -(dval ds * dval ds') else dval ds * dval ds') := by
    rw [hv, hv']; cases neg <;> cases neg' <;> simp [Int.neg_mul, Int.mul_neg]
  rw [hx]
  refine hg.fit ?_
  have h1 := dval_bd hd
  have h2 := dval_bd hd'
  have h3 : 0 ≤ dval ds * dval ds' := Int.mul_nonneg h1.1 h2.1
  have h4 : dval ds * dval ds' < P15 (L + L') := by
    have g1 := P15_le hl
    have g2 := P15_le hl'
    rw [P15_add]
    have g3 : dval ds * dval ds' ≤ (P15 L - 1) * (P15 L' - 1) := Int.mul_le_mul (by omega) (by omega) h2.1 (by have := P15_pos L; omega)
    have g4 : (P15 L - 1) * (P15 L' - 1) = P15 L * P15 L' - P15 L - P15 L' + 1 := by rw [Int.sub_mul, Int.mul_sub]; omega
    have := P15_pos L; have := P15_pos L'
    omega
  cases neg <;> cases neg' <;> simp <;> omega
end Go.Proofs.Ytlcbomjdbdgbmaa
namespace Go.Proofs.Ytlcbomjdbdgbmaa
open Go.RowKit

/-- the Go value of a fraction: its eight words -/
abbrev rC (n d : Int) : Array Value := #[.int .u64 (wd0 n), .int .u64 (wd1 n), .int .u64 (wd2 n), .int .u64 (wd3 n), .int .u64 (wd0 d), .int .u64 (wd1 d), .int .u64 (wd2 d), .int .u64 (wd3 d)]
abbrev rI (n d : Int) : Value := .agg (rC n d)
/-- a variable that holds a fraction -/
abbrev RVar (w : World) (b : Nat) (n d : Int) : Prop := Blk w b (rC n d) 52
theorem RVar.c {w : World} {b : Nat} {n d : Int} (h : RVar w b n d) : (w.cell? ⟨b, 0, none⟩ = some (.int .u64 (wd0 n)) ∧ w.cell? ⟨b, 1, none⟩ = some (.int .u64 (wd1 n)) ∧ w.cell? ⟨b, 2, none⟩ = some (.int .u64 (wd2 n)) ∧ w.cell? ⟨b, 3, none⟩ = some (.int .u64 (wd3 n))) ∧
    (w.cell? ⟨b, 4, none⟩ = some (.int .u64 (wd0 d)) ∧ w.cell? ⟨b, 5, none⟩ = some (.int .u64 (wd1 d)) ∧ w.cell? ⟨b, 6, none⟩ = some (.int .u64 (wd2 d)) ∧ w.cell? ⟨b, 7, none⟩ = some (.int .u64 (wd3 d))) :=
  ⟨⟨h.cell 0, h.cell 1, h.cell 2, h.cell 3⟩, h.cell 4, h.cell 5, h.cell 6, h.cell 7⟩
theorem RVar.f {w : World} {b : Nat} {n d : Int} (h : RVar w b n d) : (w.frozen? ⟨b, 0, none⟩ = false ∧ w.frozen? ⟨b, 1, none⟩ = false ∧ w.frozen? ⟨b, 2, none⟩ = false ∧ w.frozen? ⟨b, 3, none⟩ = false) ∧
    (w.frozen? ⟨b, 4, none⟩ = false ∧ w.frozen? ⟨b, 5, none⟩ = false ∧ w.frozen? ⟨b, 6, none⟩ = false ∧ w.frozen? ⟨b, 7, none⟩ = false) :=
  ⟨⟨h.free 0, h.free 1, h.free 2, h.free 3⟩, h.free 4, h.free 5, h.free 6, h.free 7⟩
set_option maxRecDepth 100000 in
theorem Right_any (n d : Int) (w : World) (hd : InI d) :
    Calls Try.prog 36 #[rI n d] w fun e w' => e = .returned (.bool (decide (0 < d))) ∧ Below w.heap.size w w' := by
  go_enter Try.func36, Try.ntmps36
  go_wp2_with fail
  refine (Sign_any d _ hd).mono ?_
  rintro e w2 ⟨rfl, hn⟩
  go_wp2
  go_ret
  exact ⟨rfl, (below_a1 _ _).trans (hn.mono (by simp))⟩
theorem Right_is (n d : Int) (w : World) (hd : InI d) (b : Bool) (hb : decide (0 < d) = b) :
    Calls Try.prog 36 #[rI n d] w fun e w' => e = .returned (.bool b) ∧ Below w.heap.size w w' := hb ▸ Right_any n d w hd

end Go.Proofs.Ytlcbomjdbdgbmaa
namespace Go.Proofs.Ytlcbomjdbdgbmaa
open Go.RowKit

/-- where the search for the common one stands -/
structure ComAt (w : World) (a b : Int) (wr : World) : Prop where
  va : Var wr w.heap.size a
  vb : Var wr (w.heap.size + 1) b
  v0 : Var wr (w.heap.size + 1 + 1) 0
  below : Below w.heap.size w wr
theorem ComAt.of {w : World} {a b : Int} {wr w' : World} (h : ComAt w a b wr) (hn : Below wr.heap.size wr w') : ComAt w a b w' :=
  ⟨h.va.of hn, h.vb.of hn, h.v0.of hn, h.below.trans (hn.mono h.below.size)⟩

end Go.Proofs.Ytlcbomjdbdgbmaa
namespace Go.Proofs.Ytlcbomjdbdgbmaa
open Go.RowKit

/-- the two variables of New, and what it hands back -/
structure NewAt (w : World) (x y : Int) (wr : World) : Prop where
  kx : Var wr w.heap.size x
  ky : Var wr (w.heap.size + 1) y
  k0 : RVar wr (w.heap.size + 1 + 1) 0 0
  below : Below w.heap.size w wr
theorem NewAt.of {w : World} {x y : Int} {wr w' : World} (h : NewAt w x y wr) (hn : Below wr.heap.size wr w') : NewAt w x y w' :=
  ⟨h.kx.of hn, h.ky.of hn, h.k0.of hn, h.below.trans (hn.mono h.below.size)⟩
end Go.Proofs.Ytlcbomjdbdgbmaa
namespace Go.Proofs.Ytlcbomjdbdgbmaa
open Go.RowKit

end Go.Proofs.Ytlcbomjdbdgbmaa
namespace Go.Proofs.Ytlcbomjdbdgbmaa
open Go.RowKit

/-- a fraction of two Bigs -/
def BRat (w : World) (v : Value) (n d : Int) (L : Nat) : Prop :=
  ∃ (n1 : Bool) (a1 : Option Addr) (l1 c1 : Nat) (n2 : Bool) (a2 : Option Addr) (l2 c2 : Nat), v = .agg #[.bool n1, .slice a1 l1 c1, .bool n2, .slice a2 l2 c2] ∧ Big w (.agg #[.bool n1, .slice a1 l1 c1]) n L ∧ Big w (.agg #[.bool n2, .slice a2 l2 c2]) d L
theorem BRat.of {w w' : World} {v : Value} {n d : Int} {L : Nat} (h : BRat w v n d L) (hb : Below w.heap.size w w') : BRat w' v n d L := by
  obtain ⟨n1, a1, l1, c1, n2, a2, l2, c2, h1, h2, h3⟩ := h
  exact ⟨n1, a1, l1, c1, n2, a2, l2, c2, h1, h2.of hb, h3.of hb⟩
theorem i64_u64 {x : Int} (h0 : 0 ≤ x) (h1 : x < 18446744073709551616) : In64 (IntKind.i64.wrap x) ∧ wd0 (IntKind.i64.wrap x) = x := by
  rw [IntKind.wrap_i64]; unfold In64 wd0 b64; omega
instance (x : Int) : Decidable (In64 x) := by unfold In64; exact inferInstance
theorem small_eq {x : Int} (ix : InI x) (b : Bool) (h : decide (In64 x) = b) :
    In64 (IntKind.i64.wrap (wd0 x)) ∧ (bif b then IntKind.i64.wrap (wd0 x) = x else True) ∧ eq4 (wd0 (IntKind.i64.wrap (wd0 x))) (wd1 (IntKind.i64.wrap (wd0 x))) (wd2 (IntKind.i64.wrap (wd0 x))) (wd3 (IntKind.i64.wrap (wd0 x))) (wd0 x) (wd1 x) (wd2 x) (wd3 x) = b := by
  have hw := wd0_Wd x
  obtain ⟨h1, h2⟩ := i64_u64 hw.lo hw.hi
  obtain ⟨m, hm⟩ : ∃ m, m = IntKind.i64.wrap (wd0 x) := ⟨_, rfl⟩
  rw [← hm] at h1 h2 ⊢
  rw [eq4_wd]
  refine ⟨h1, ?_, ?_⟩
  · cases b
    · trivial
    · have h := of_decide_eq_true h
      show m = x
      unfold In64 wd0 b64 at *; omega
  · rw [← h, Bool.eq_iff_iff, decide_eq_true_iff, decide_eq_true_iff]
    constructor
    · intro e
      have : m = x := by unfold InI In64 b255 b256 at *; omega
      rw [← this]; exact h1
    · intro h
      have : m = x := by unfold In64 wd0 b64 at *; omega
      rw [this]

set_option maxRecDepth 100000 in
set_option maxHeartbeats 1000000 in
theorem Small_any (x : Int) (w : World) (ix : InI x) (b : Bool) (h : decide (In64 x) = b) :
    Calls Try.prog 110 #[wI x] w fun e w' => e = .returned (.tuple #[.int .i64 (bif b then x else 0), .bool b]) ∧ Below w.heap.size w w' := by
  obtain ⟨h1, h2, h3⟩ := small_eq ix b h
  obtain ⟨m, hm⟩ : ∃ m, IntKind.i64.wrap (wd0 x) = m := ⟨_, rfl⟩
  rw [hm] at h1 h2 h3
  have H2 := Lib.hid h2
  clear h2 h ix
  go_enter Try.func110, Try.ntmps110
  go_wp2_with fail
  clear hm
  refine name_world ?_
  intro W hW
  have kx : Var W w.heap.size x := by rw [hW]; exact Blk.new _ _ _
  have hb0 : Below w.heap.size w W := by rw [hW]; exact below_a1 _ _
  clear hW
  have c := Var.c kx
  have l0 := kx.lt
  clear kx
  refine wp_region_up W.heap.size 3 [(true, 0), (true, 2), (false, 1)] (by kernel_rfl) (by kernel_rfl) (fun _ _ d _ _ h => by cases d <;> exact h) ?_
  have hb : Below W.heap.size W W.drew := (Below.refl _ _).drew
  iterate 2
    refine wpS_takeL rfl rfl ?_
    go_big_quiet_step (rfl)
    refine wpQuiet_nil ?_
  refine wpS_doL rfl ?_
  intro K hK
  go_wp2_with ((go_at_call 62; refine (Of_any m _ h1).mono ?_; rintro e w2 ⟨rfl, hn⟩))
  replace hb := hb.trans (hn.mono hb.size)
  refine hK.out _ _ (up_iff.2 hb) ?_
  clear hK K
  clear hn
  refine wpS_nil ?_
  simp only [List.drop_succ_cons, List.drop_zero]
  have hb2 : Below w.heap.size w w2 := hb0.trans (hb.mono hb0.size)
  clear c l0 hb hb0
  cases b
  · go_wp2
    go_ret2
    exact ⟨rfl, hb2⟩
  · have H3 := H2.out
    rw [cond_true] at H3
    subst H3
    go_wp2
    go_ret2
    exact ⟨rfl, hb2⟩
end Go.Proofs.Ytlcbomjdbdgbmaa
namespace Go.Proofs.Ytlcbomjdbdgbmaa
open Go.RowKit

set_option maxRecDepth 100000 in
set_option maxHeartbeats 1000000 in
theorem mul64_nat (x y : Nat) (hx : x < 18446744073709551616) (hy : y < 18446744073709551616) (w : World) :
    Calls Try.prog 145 #[.int .u64 x, .int .u64 y] w fun e w' => e = .returned (.tuple #[.int .u64 ((x * y / 18446744073709551616 : Nat) : Int), .int .u64 ((x * y % 18446744073709551616 : Nat) : Int)]) ∧ w' = w := by
  obtain ⟨bd, bt, bw, hhi⟩ := Go.Lib.mul64_hi x y hx hy
  have ba := Go.Lib.half_mul_le (a := x / 4294967296) (b := y / 4294967296) (by omega) (by omega)
  have bb := Go.Lib.half_mul_le (a := x / 4294967296) (b := y % 4294967296) (by omega) (by omega)
  have bc := Go.Lib.half_mul_le (a := x % 4294967296) (b := y / 4294967296) (by omega) (by omega)
  have ba' : x / 4294967296 * (y / 4294967296) < 18446744073709551616 := by omega
  have bb' : x / 4294967296 * (y % 4294967296) < 18446744073709551616 := by omega
  have bc' : x % 4294967296 * (y / 4294967296) < 18446744073709551616 := by omega
  have bh1 : x / 4294967296 * (y / 4294967296) + (x / 4294967296 * (y % 4294967296) + x % 4294967296 * (y % 4294967296) / 4294967296) / 4294967296 < 18446744073709551616 := by omega
  have bh : x / 4294967296 * (y / 4294967296) + (x / 4294967296 * (y % 4294967296) + x % 4294967296 * (y % 4294967296) / 4294967296) / 4294967296 + ((x / 4294967296 * (y % 4294967296) + x % 4294967296 * (y % 4294967296) / 4294967296) % 4294967296 + x % 4294967296 * (y / 4294967296)) / 4294967296 < 18446744073709551616 := by omega
  go_enter Try.func145, Try.ntmps145
  go_wp2
  simp only [Mul64.maskN x hx, Mul64.maskN y hy, Mul64.divN, Mul64.mulN, Mul64.addN, Mul64.wrapN _ bd, Mul64.wrapN _ bb', Mul64.wrapN _ bt, Mul64.maskN _ bt, Mul64.wrapN _ bc', Mul64.wrapN _ bw, Mul64.wrapN _ ba', Mul64.wrapN _ bh1, Mul64.wrapN _ bh, Mul64.wrapM (x * y)]
  rw [hhi]
  go_ret2
  exact ⟨rfl, rfl⟩

theorem mul64_any (x y : Int) (hx : Wd x) (hy : Wd y) (w : World) :
    Calls Try.prog 145 #[.int .u64 x, .int .u64 y] w fun e w' => e = .returned (.tuple #[.int .u64 (x * y / 18446744073709551616), .int .u64 (x * y % 18446744073709551616)]) ∧ w = w' := by
  obtain ⟨x0, x1⟩ := hx
  obtain ⟨y0, y1⟩ := hy
  obtain ⟨m, rfl⟩ := Int.eq_ofNat_of_zero_le x0
  obtain ⟨n, rfl⟩ := Int.eq_ofNat_of_zero_le y0
  refine (mul64_nat m n (by omega) (by omega) w).mono fun e w' ⟨he, hw⟩ => ⟨?_, hw.symm⟩
  rw [he]
  simp only [Int.natCast_ediv, Int.natCast_emod, Int.natCast_mul]
  rfl
end Go.Proofs.Ytlcbomjdbdgbmaa
namespace Go.Proofs.Ytlcbomjdbdgbmaa

/-- 2^64 to the power of n -/
def P64 (n : Nat) : Int := 18446744073709551616 ^ n
theorem P64_0 : P64 0 = 1 := rfl
theorem P64_succ (n : Nat) : P64 (n + 1) = 18446744073709551616 * P64 n := by unfold P64; rw [Int.pow_succ, Int.mul_comm]
theorem P64_add (m n : Nat) : P64 (m + n) = P64 m * P64 n := by unfold P64; rw [Int.pow_add]

theorem uval_append (a b : List Int) : uval (a ++ b) = uval a + P64 a.length * uval b := by
  induction a with
  | nil => simp [uval, P64_0]
  | cons d t ih => rw [List.cons_append, uval, uval, ih, List.length_cons, P64_succ, Int.mul_add, Int.mul_assoc]; omega
theorem uval_take_succ (ds : List Int) (k : Nat) : uval (ds.take (k + 1)) = uval (ds.take k) + P64 k * ds.getD k 0 := by
  rcases Nat.lt_or_ge k ds.length with h | h
  · rw [List.take_succ_eq_append_getElem h, uval_append, List.length_take, Nat.min_eq_left (by omega), getD_in' h]
    simp [uval]
  · rw [List.take_of_length_le (by omega), List.take_of_length_le h, getD_out h]; simp
theorem uval_set {ds : List Int} {j : Nat} (hj : j < ds.length) (v : Int) : uval (ds.set j v) = uval ds + P64 j * (v - ds.getD j 0) := by
  induction ds generalizing j with
  | nil => cases hj
  | cons d t ih =>
    cases j with
    | zero => simp [uval, P64_0]; omega
    | succ j =>
      have hj' : j < t.length := by simpa using hj
      rw [List.set_cons_succ, uval, uval, ih hj', P64_succ, List.getD_cons_succ, Int.mul_add, Int.mul_assoc]; omega
theorem WordsOk.set {ds : List Int} (h : WordsOk ds) {v : Int} (hv : Wd v) (j : Nat) : WordsOk (ds.set j v) := fun x hx => by
  rcases List.mem_or_eq_of_mem_set hx with h' | h'
  · exact h x h'
  · rw [h']; exact hv
theorem WordsOk.get {ws : List Int} (h : WordsOk ws) (i : Nat) : Wd (ws.getD i 0) := by
  by_cases hi : i < ws.length
  · rw [getD_in' hi]; exact h _ (List.getElem_mem hi)
  · rw [getD_out (by omega)]; exact ⟨by decide, by decide⟩

/-- one step of the product: what the two sums with carry make of it -/
theorem mul_step {x y o c : Int} (hx : Wd x) (hy : Wd y) (ho : Wd o) (hc : Wd c) :
    Wd (x * y / 18446744073709551616) ∧ Wd (x * y % 18446744073709551616) ∧
    (0 ≤ (x * y % 18446744073709551616 + o) / 18446744073709551616 ∧ (x * y % 18446744073709551616 + o) / 18446744073709551616 ≤ 1) ∧ Wd ((x * y % 18446744073709551616 + o) % 18446744073709551616) ∧
    Wd (x * y / 18446744073709551616 + (x * y % 18446744073709551616 + o) / 18446744073709551616) ∧
    ((x * y % 18446744073709551616 + o) % 18446744073709551616 + c) % 18446744073709551616 = (x * y + o + c) % 18446744073709551616 ∧
    x * y / 18446744073709551616 + (x * y % 18446744073709551616 + o) / 18446744073709551616 + ((x * y % 18446744073709551616 + o) % 18446744073709551616 + c) / 18446744073709551616 = (x * y + o + c) / 18446744073709551616 ∧
    Wd ((x * y + o + c) / 18446744073709551616) ∧ Wd ((x * y + o + c) % 18446744073709551616) := by
  obtain ⟨x0, x1⟩ := hx
  obtain ⟨y0, y1⟩ := hy
  obtain ⟨o0, o1⟩ := ho
  obtain ⟨c0, c1⟩ := hc
  have h1 : 0 ≤ x * y := Int.mul_nonneg x0 y0
  have h2 : x * y ≤ 18446744073709551615 * 18446744073709551615 := Int.mul_le_mul (by omega) (by omega) y0 (by decide)
  generalize x * y = p at *
  have h3 : p ≤ 340282366920938463426481119284349108225 := h2
  refine ⟨⟨?_, ?_⟩, ⟨?_, ?_⟩, ⟨?_, ?_⟩, ⟨?_, ?_⟩, ⟨?_, ?_⟩, ?_, ?_, ⟨?_, ?_⟩, ⟨?_, ?_⟩⟩ <;> omega

/-- the product so far: all of the first i words, and of the next one as many as k of the other number's -/
structure Prw (xs ys : List Int) (n i k : Nat) (out : List Int) (c : Int) : Prop where
  ok : WordsOk out
  len : out.length = n
  sum : uval out + P64 (i + k) * c = uval (xs.take i) * uval ys + P64 i * (xs.getD i 0 * uval (ys.take k))
  far : ∀ j, i + ys.length ≤ j → out.getD j 0 = 0
  cw : Wd c
theorem Prw.start {xs ys : List Int} {n i : Nat} {out : List Int} (h1 : WordsOk out) (h2 : out.length = n) (h3 : uval out = uval (xs.take i) * uval ys) (h4 : ∀ j, i + ys.length ≤ j → out.getD j 0 = 0) : Prw xs ys n i 0 out 0 :=
  ⟨h1, h2, by rw [h3]; simp [uval], h4, by decide, by decide⟩
theorem Prw.step {xs ys : List Int} {n i k : Nat} {out : List Int} {c x y a : Int} (h : Prw xs ys n i k out c) (dx : WordsOk xs) (dy : WordsOk ys) (hk : k < ys.length) (hn : i + ys.length ≤ n)
    (hx : x = xs.getD i 0) (hy : y = ys.getD k 0) (ha : a = out.getD (i + k) 0) :
    Prw xs ys n i (k + 1) (out.set (i + k) ((x * y + a + c) % 18446744073709551616)) ((x * y + a + c) / 18446744073709551616) := by
  have b := mul_step (hx ▸ dx.get i) (hy ▸ dy.get k) (ha ▸ h.ok.get (i + k)) h.cw
  obtain ⟨_, _, _, _, _, _, _, b1, b2⟩ := b
  refine ⟨h.ok.set b2 _, by rw [List.length_set]; exact h.len, ?_, fun j hj => ?_, b1⟩
  · rw [uval_set (by rw [h.len]; omega), ← ha, uval_take_succ, ← hx, ← hy, ← Nat.add_assoc, P64_succ]
    have e1 := h.sum
    rw [← hx] at e1
    have e3 : 18446744073709551616 * P64 (i + k) * ((x * y + a + c) / 18446744073709551616) = P64 (i + k) * (18446744073709551616 * ((x * y + a + c) / 18446744073709551616)) := by rw [Int.mul_comm 18446744073709551616, Int.mul_assoc]
    have e4 : P64 (i + k) * ((x * y + a + c) % 18446744073709551616 - a) + P64 (i + k) * (18446744073709551616 * ((x * y + a + c) / 18446744073709551616)) = P64 (i + k) * (x * y) + P64 (i + k) * c := by
      rw [← Int.mul_add, ← Int.mul_add]
      have e6 : (x * y + a + c) % 18446744073709551616 - a + 18446744073709551616 * ((x * y + a + c) / 18446744073709551616) = x * y + c := by
        generalize x * y = p at *
        omega
      rw [e6]
    have e5 : P64 i * (x * (uval (ys.take k) + P64 k * y)) = P64 i * (x * uval (ys.take k)) + P64 (i + k) * (x * y) := by
      rw [Int.mul_add, Int.mul_add, P64_add, Int.mul_assoc (P64 i), Int.mul_left_comm x]
    rw [e5, e3]; omega
  · rw [getD_set_ne (by omega)]; exact h.far j hj
theorem Prw.row {xs ys : List Int} {n i : Nat} {out : List Int} {c : Int} (h : Prw xs ys n i ys.length out c) (hn : i + ys.length < n) :
    Prw xs ys n (i + 1) 0 (out.set (i + ys.length) c) 0 := by
  have a0 := h.far _ (Nat.le_refl _)
  refine Prw.start (h.ok.set h.cw _) (by rw [List.length_set]; exact h.len) ?_ fun j hj => ?_
  · rw [uval_set (by rw [h.len]; omega), a0, Int.sub_zero, h.sum, List.take_of_length_le (Nat.le_refl _), uval_take_succ, Int.add_mul, Int.mul_assoc]
  · rw [getD_set_ne (by omega)]; exact h.far j (by omega)
theorem uval_repl (n : Nat) : uval (List.replicate n 0) = 0 := by
  induction n with
  | zero => rfl
  | succ n ih => rw [List.replicate_succ, uval, ih]; rfl
theorem Prw.zero (xs ys : List Int) (n : Nat) : Prw xs ys n 0 0 (List.replicate n 0) 0 := by
  refine Prw.start (fun x hx => by rw [(List.mem_replicate.1 hx).2]; exact ⟨by decide, by decide⟩) (List.length_replicate ..) (by rw [uval_repl]; simp [uval]) fun j _ => ?_
  rcases Nat.lt_or_ge j n with h | h
  · rw [getD_in' (by rw [List.length_replicate]; exact h)]; simp
  · exact getD_out (by rw [List.length_replicate]; exact h)
theorem Prw.all {xs ys : List Int} {n : Nat} {out : List Int} {c : Int} (h : Prw xs ys n xs.length 0 out c) (hc : c = 0) : WordsOk out ∧ uval out = uval xs * uval ys := by
  refine ⟨h.ok, ?_⟩
  have := h.sum
  rw [hc, Int.mul_zero, Int.add_zero, List.take_of_length_le (Nat.le_refl _)] at this
  rw [this]; simp [uval]

/-- eight words: the four high ones are 0 just if the number is below 2^256; then the low ones are its words -/
theorem eight {o0 o1 o2 o3 o4 o5 o6 o7 p : Int} (h : WordsOk [o0, o1, o2, o3, o4, o5, o6, o7]) (hp : uval [o0, o1, o2, o3, o4, o5, o6, o7] = p) :
    eq4 o4 o5 o6 o7 0 0 0 0 = decide (p < b256) ∧ (p < b256 → o0 = wd0 p ∧ o1 = wd1 p ∧ o2 = wd2 p ∧ o3 = wd3 p) := by
  have g0 : Wd o0 := h _ (by simp)
  have g1 : Wd o1 := h _ (by simp)
  have g2 : Wd o2 := h _ (by simp)
  have g3 : Wd o3 := h _ (by simp)
  have g4 : Wd o4 := h _ (by simp)
  have g5 : Wd o5 := h _ (by simp)
  have g6 : Wd o6 := h _ (by simp)
  have g7 : Wd o7 := h _ (by simp)
  have e : p = un4 o0 o1 o2 o3 + b256 * un4 o4 o5 o6 o7 := by
    rw [← hp]; simp only [uval, un4, b64, b128, b192, b256]; omega
  have l := un4_bd g0 g1 g2 g3
  have k := un4_bd g4 g5 g6 g7
  have z : eq4 o4 o5 o6 o7 0 0 0 0 = decide (un4 o4 o5 o6 o7 = 0) := by
    obtain ⟨p4, q4⟩ := g4; obtain ⟨p5, q5⟩ := g5; obtain ⟨p6, q6⟩ := g6; obtain ⟨p7, q7⟩ := g7
    rw [Bool.eq_iff_iff, decide_eq_true_iff]
    unfold eq4 un4 b64 b128 b192
    simp only [Bool.and_eq_true, beq_iff_eq]
    constructor
    · rintro ⟨⟨⟨h0, h1⟩, h2⟩, h3⟩; omega
    · intro h; exact ⟨⟨⟨by omega, by omega⟩, by omega⟩, by omega⟩
  have hz : p < b256 ↔ un4 o4 o5 o6 o7 = 0 := by
    constructor
    · intro hlt
      rcases Int.lt_or_eq_of_le k.1 with h | h
      · have : b256 * 1 ≤ b256 * un4 o4 o5 o6 o7 := Int.mul_le_mul_of_nonneg_left (by omega) (by decide)
        omega
      · exact h.symm
    · intro h; rw [h] at e; omega
  refine ⟨by rw [z, Bool.eq_iff_iff, decide_eq_true_iff, decide_eq_true_iff, hz], fun hlt => ?_⟩
  have e2 : p = un4 o0 o1 o2 o3 := by rw [e, hz.1 hlt, Int.mul_zero, Int.add_zero]
  rw [e2]
  exact ⟨(wd0_un4 g0).symm, (wd1_un4 g0 g1).symm, (wd2_un4 g0 g1 g2).symm, (wd3_un4 g0 g1 g2 g3).symm⟩
end Go.Proofs.Ytlcbomjdbdgbmaa
namespace Go.Proofs.Ytlcbomjdbdgbmaa
open Go.RowKit

def dw (ds : List Int) : List Value := ds.map (Value.int .u64)
theorem dw_get {ds : List Int} {j : Nat} (h : j < ds.length) : (dw ds).toArray[j]? = some (.int .u64 (ds.getD j 0)) := by
  unfold dw; simp [h]
theorem dw_put (ds : List Int) (j : Nat) (v : Int) : (dw ds).toArray.setIfInBounds j (.int .u64 v) = (dw (ds.set j v)).toArray := by
  unfold dw; rw [List.setIfInBounds_toArray, List.map_set]
/-- the four words of a number -/
def ws4 (x : Int) : List Int := [wd0 x, wd1 x, wd2 x, wd3 x]
theorem ws4_ok (x : Int) : WordsOk (ws4 x) := by
  intro d hd
  simp only [ws4, List.mem_cons, List.not_mem_nil, or_false] at hd
  rcases hd with rfl | rfl | rfl | rfl
  · exact wd0_Wd x
  · exact wd1_Wd x
  · exact wd2_Wd x
  · exact wd3_Wd x
theorem uval_ws4 (x : Int) : uval (ws4 x) = x % b256 := by
  rw [← un4_wd]
  simp only [ws4, uval, un4, b64, b128, b192]; omega
theorem Var.at {w : World} {b : Nat} {x : Int} (h : Var w b x) {i : Nat} (hi : i < 4) : w.cell? ⟨b, i, none⟩ = some (.int .u64 ((ws4 x).getD i 0)) := by
  rw [Blk.cell h]
  match i, hi with
  | 0, _ => rfl
  | 1, _ => rfl
  | 2, _ => rfl
  | 3, _ => rfl

/-- where the product stands -/
structure MulW (w : World) (a b : Int) (b1 b2 b3 : Nat) (out : List Int) (wr : World) : Prop where
  ka : Var wr w.heap.size a
  kb : Var wr (w.heap.size + 1) b
  k0 : Var wr (w.heap.size + 1 + 1) 0
  kx : Var wr b1 (sz a)
  ky : Var wr b2 (sz b)
  ko : Blk wr b3 (dw out).toArray 173
  len : out.length = 8
  l1 : b1 < b3
  l2 : b2 < b3
  l3 : w.heap.size + 1 + 1 < b3
  below : Below w.heap.size w wr
theorem MulW.of {w : World} {a b : Int} {b1 b2 b3 : Nat} {out : List Int} {wr w' : World} (h : MulW w a b b1 b2 b3 out wr) (hn : Below wr.heap.size wr w') : MulW w a b b1 b2 b3 out w' :=
  ⟨h.ka.of hn, h.kb.of hn, h.k0.of hn, h.kx.of hn, h.ky.of hn, h.ko.of hn, h.len, h.l1, h.l2, h.l3, h.below.trans (hn.mono h.below.size)⟩
theorem MulW.put {w : World} {a b : Int} {b1 b2 b3 : Nat} {out : List Int} {wr : World} (h : MulW w a b b1 b2 b3 out wr) (j : Nat) (v : Int) : MulW w a b b1 b2 b3 (out.set j v) (wr.setCell ⟨b3, j, none⟩ (.int .u64 v)) := by
  have h1 := h.l1; have h2 := h.l2; have h3 := h.l3
  exact ⟨h.ka.set (by omega) _ _ _, h.kb.set (by omega) _ _ _, h.k0.set (by omega) _ _ _, h.kx.set (by omega) _ _ _, h.ky.set (by omega) _ _ _, by rw [← dw_put]; exact Blk.put h.ko _ _, by rw [List.length_set]; exact h.len, h1, h2, h3, h.below.setCell (by show _ ≤ b3; omega) _⟩
theorem MulW.outc {w : World} {a b : Int} {b1 b2 b3 : Nat} {out : List Int} {wr : World} (h : MulW w a b b1 b2 b3 out wr) {j : Nat} (hj : j < 8) : wr.cell? ⟨b3, j, none⟩ = some (.int .u64 (out.getD j 0)) := by
  rw [h.ko.cell]; exact dw_get (by rw [h.len]; exact hj)

@[go_sem] theorem run_eq23 (a0 a1 a2 a3 b0 b1 b2 b3 : Int) (w : World) :
    (Op.equalIn 10000 34 (.agg #[.int .u64 a0, .int .u64 a1, .int .u64 a2, .int .u64 a3]) (.agg #[.int .u64 b0, .int .u64 b1, .int .u64 b2, .int .u64 b3])).run Try.prog w = .ok (eq4 a0 a1 a2 a3 b0 b1 b2 b3) w := by
  have hu : Try.prog.underlying 34 = some (.array 4 33) := by kernel_rfl
  have hs : ∀ w, (sizeOf 33).run Try.prog w = .ok 1 w := fun w => by kernel_rfl
  have he : ∀ (a b : Int) w, (Op.equalIn 9999 33 (.int .u64 a) (.int .u64 b)).run Try.prog w = .ok (a == b) w := fun a b w => run_equalIn_int w 9998 _ .u64 .u64 a b (by kernel_rfl)
  have hp : ∀ (c : Array Value) (i : Nat) (v : Value) w, c[i]? = some v → (part 33 c i).run Try.prog w = .ok v w := by
    intro c i v w h
    have ha : (isAgg 33).run Try.prog w = .ok false w := by kernel_rfl
    unfold part
    simp [Sem.run_bind, ha, h]
  show (Op.equalIn (9999 + 1) _ _ _).run _ _ = _
  unfold Op.equalIn
  simp only [Sem.run_bind, run_underlying hu, Result.andThen_ok, hs]
  simp [List.range', he, hp, Sem.run_bind]
  unfold eq4
  by_cases h0 : a0 = b0 <;> by_cases h1 : a1 = b1 <;> by_cases h2 : a2 = b2 <;> by_cases h3 : a3 = b3 <;> simp [h0, h1, h2, h3]
@[go_sem] theorem run_arrayAt4 (a : Option Addr) (c : Nat) (w : World) : (Instr.arrayAt 34 (.slice a 4 c)).run Try.prog w = .ok (.pointer a) w := by
  have hu : Try.prog.underlying 34 = some (.array 4 33) := by kernel_rfl
  unfold Instr.arrayAt
  simp only [Sem.run_bind, run_underlying hu, Result.andThen_ok]
  rfl
@[go_sem] theorem run_arrayAtI (a : Option Addr) (c : Nat) (w : World) : (Instr.arrayAt 35 (.slice a 4 c)).run Try.prog w = .ok (.pointer a) w := by
  have hu : Try.prog.underlying 35 = some (.array 4 33) := by kernel_rfl
  unfold Instr.arrayAt
  simp only [Sem.run_bind, run_underlying hu, Result.andThen_ok]
  rfl
theorem signedk_is (x : Int) (b k : Bool) (hk : sgB x b = k) (w : World) :
    Calls Try.prog 139 #[wI x, .bool b] w fun e w' => e = .returned (.tuple #[wI (bif k then sgV x b else 0), .bool k]) ∧ Below w.heap.size w w' := hk ▸ signed_any x b w
theorem below_of_eq {w w' : World} (h : w = w') : Below w.heap.size w w' := h ▸ Below.refl _ _
theorem add64_0 {l o l1 m1 : Int} (hl : Wd l) (ho : Wd o) (h1 : l1 = (l + o) % 18446744073709551616) (h2 : m1 = (l + o) / 18446744073709551616) (w : World) : (callFunc 146 #[.int .u64 l, .int .u64 o, .int .u64 0]).run Try.prog w = .ok (.value (.tuple #[.int .u64 l1, .int .u64 m1])) w := by
  rw [add64 l o 0 hl ho (by decide) (by decide), Int.add_zero, ← h1, ← h2]

set_option maxRecDepth 100000 in
set_option maxHeartbeats 4000000 in
theorem Mul_go (a b : Int) (w : World) (u : Bool) (hu : (ng a == ng b) = !u) (P : Int) (hP : sz a % b256 * (sz b % b256) = P) (z : Bool) (hz : decide (P < b256) = z) (s : Bool) (hs : sgB P u = s) :
    Calls Try.prog 124 #[wI a, wI b] w fun e w' => e = .returned (.tuple #[wI (bif z && s then sgV P u else 0), .bool (z && s)]) ∧ Below w.heap.size w w' := by
  have HU := Lib.hid hu
  have HP := Lib.hid hP
  have HZ := Lib.hid hz
  have HS := Lib.hid hs
  clear hu hP hz hs
  go_enter Try.func124, Try.ntmps124
  go_wp2_with fail
  refine name_world ?_
  intro W hW
  have ka : Var W w.heap.size a := by rw [hW]; exact ((Blk.new _ _ _).alloc _).alloc _
  have kb : Var W (w.heap.size + 1) b := by rw [hW]; exact (Blk.new1 _ _ _ _).alloc _
  have k0 : Var W (w.heap.size + 1 + 1) 0 := by rw [hW]; exact Blk.new2 _ _ _ _ _
  have hb0 : Below w.heap.size w W := by rw [hW]; exact (((Below.refl _ _).alloc (Nat.le_refl _) _).alloc (by simp) _).alloc (by simp; omega) _
  clear hW
  have ca := Var.c ka
  have cb := Var.c kb
  have la := ka.lt
  have lb := kb.lt
  have KA := Lib.hid ka
  have KB := Lib.hid kb
  have K0 := Lib.hid k0
  clear ka kb k0
  refine wp_region_FG2 6 4 5 [(0, 0), (0, 2), (1, 1), (1, 3)] [(3, 6), (3, 7)] (by kernel_rfl) (by kernel_rfl) (fun _ _ d _ _ => by cases d <;> exact Iff.rfl) rfl rfl rfl allocI rfl rfl rfl allocI rfl ?_
  have hb : Below W.heap.size W W.drew := (Below.refl _ _).drew
  iterate 2
    refine wpFG_take0 rfl rfl ?_
    go_big_quiet_step (rfl)
    refine wpQuiet_nil ?_
  refine wpFG_do rfl ?_
  intro w1 hg K hK
  replace hb := hb.trans (hg.mono hb.size)
  clear hg
  go_wp2_with ((go_at_call 136; refine (size_any _ _).mono ?_; rintro e w2 ⟨rfl, hn⟩))
  refine hK.out _ _ hn ?_
  replace hb := hb.trans (hn.mono hb.size)
  clear hK K
  clear hn
  refine wpFG_do rfl ?_
  intro w1 hg K hK
  replace hb := hb.trans (hg.mono hb.size)
  clear hg
  go_wp2_with ((go_at_call 136; refine (size_any _ _).mono ?_; rintro e w2 ⟨rfl, hn⟩))
  refine hK.out _ _ hn ?_
  replace hb := hb.trans (hn.mono hb.size)
  clear hK K
  clear hn
  refine wpFG_nil ?_
  clear hb
  intro w1 hg hb b1 b2 hne lb1 nb1 lb2 nb2
  clear hg
  simp only [Act.put, ptrTo, List.setIfInBounds_toArray, List.set_cons_succ, List.set_cons_zero]
  have c1 := Var.c (show Var w1 b1 0 from nb1)
  have f1 := Var.f (show Var w1 b1 0 from nb1)
  have c2 := Var.c (show Var w1 b2 0 from nb2)
  have f2 := Var.f (show Var w1 b2 0 from nb2)
  clear ca cb la lb
  refine wpG_do3 rfl ?_
  intro K hK
  go_wp2_with (fail)
  refine hK.out _ _ ?_
  clear hK K
  refine wpG_do3 rfl ?_
  intro K hK
  go_wp2_with (fail)
  refine hK.out _ _ ?_
  clear hK K
  refine wpG_nil ?_
  refine list_world ?_
  intro V hV
  have g1 : Var w1 b1 0 := nb1
  have g2 : Var w1 b2 0 := nb2
  have h12 : b1 ≠ b2 := hne
  have na : w.heap.size ≠ b1 ∧ w.heap.size ≠ b2 := by have := KA.out.lt; omega
  have nb : w.heap.size + 1 ≠ b1 ∧ w.heap.size + 1 ≠ b2 := by have := KB.out.lt; omega
  have n0 : w.heap.size + 1 + 1 ≠ b1 ∧ w.heap.size + 1 + 1 ≠ b2 := by have := K0.out.lt; omega
  have hge1 : w.heap.size ≤ b1 := Nat.le_trans hb0.size lb1
  have hge2 : w.heap.size ≤ b2 := Nat.le_trans hb0.size lb2
  have kx : Var V b1 (sz a) := by rw [hV]; exact Blk.set4 (Var.put4 g1 _) h12 _ _ _ _
  have ky : Var V b2 (sz b) := by rw [hV]; exact Var.put4 (Blk.set4 g2 h12.symm _ _ _ _) _
  have ka : Var V w.heap.size a := by rw [hV]; exact Blk.set4 (Blk.set4 (KA.out.of hb) na.1 _ _ _ _) na.2 _ _ _ _
  have kb : Var V (w.heap.size + 1) b := by rw [hV]; exact Blk.set4 (Blk.set4 (KB.out.of hb) nb.1 _ _ _ _) nb.2 _ _ _ _
  have k0 : Var V (w.heap.size + 1 + 1) 0 := by rw [hV]; exact Blk.set4 (Blk.set4 (K0.out.of hb) n0.1 _ _ _ _) n0.2 _ _ _ _
  have hbV : Below w.heap.size w V := by rw [hV]; exact below_set4 (below_set4 (hb0.trans (hb.mono hb0.size)) hge1 _ _ _ _) hge2 _ _ _ _
  clear hV g1 g2 nb1 nb2 c1 f1 c2 f2 lb1 lb2 hb KA KB K0 hb0 na nb n0 hge1 hge2 h12 hne
  go_wp2_with fail
  refine name_world ?_
  intro W hW
  have hd0 : MulW w a b b1 b2 V.heap.size (List.replicate 8 0) W := by
    rw [hW]
    exact ⟨ka.alloc _, kb.alloc _, k0.alloc _, kx.alloc _, ky.alloc _, Blk.new _ _ _, rfl, kx.lt, ky.lt, k0.lt, hbV.alloc hbV.size _⟩
  clear hW ka kb k0 kx ky hbV
  obtain ⟨b3, hb3⟩ : ∃ b3, b3 = V.heap.size := ⟨_, rfl⟩
  rw [← hb3] at hd0 ⊢
  clear hb3 V
  go_loopw [19] (fun i wr => ∃ (k : Nat) (out : List Int), k ≤ 4 ∧ i = .int .i64 k ∧ Hid (Prw (ws4 (sz a)) (ws4 (sz b)) 8 k 0 out 0) ∧ MulW w a b b1 b2 b3 out wr) (fun i _ => 4 - (intOf i).toNat)
  case atStart => exact ⟨0, _, Nat.zero_le _, rfl, Prw.zero _ _ _, hd0⟩
  case round =>
    clear hd0 W
    rename World => wr
    obtain ⟨i, out, hi, rfl, hp, hd⟩ := hrel
    by_cases h1 : i < 4
    · have ha4 : (i : Int) < 4 := by omega
      have HD := Lib.hid hd
      clear hd
      go_wp2_with fail
      obtain ⟨wo, rfl⟩ : ∃ wo : World, wo = wr := ⟨_, rfl⟩
      have hd := HD.out
      clear HD
      go_loopw [10, 22] (fun c k wr => ∃ (j : Nat) (cv : Int) (out : List Int), j ≤ 4 ∧ k = .int .i64 j ∧ c = .int .u64 cv ∧ Hid (Prw (ws4 (sz a)) (ws4 (sz b)) 8 i j out cv) ∧ MulW w a b b1 b2 b3 out wr) (fun _ k _ => 4 - (intOf k).toNat)
      case atStart => exact ⟨0, 0, out, Nat.zero_le _, rfl, rfl, hp, hd⟩
      case round =>
        clear hd hp
        rename World => wi
        obtain ⟨j, cv, out, hj, rfl, rfl, hp, hd⟩ := hrel
        by_cases h2 : j < 4
        · obtain ⟨x, hx⟩ : ∃ x, x = (ws4 (sz a)).getD i 0 := ⟨_, rfl⟩
          obtain ⟨y, hy⟩ : ∃ y, y = (ws4 (sz b)).getD j 0 := ⟨_, rfl⟩
          obtain ⟨o, ho⟩ : ∃ o, o = out.getD (i + j) 0 := ⟨_, rfl⟩
          have hst := hp.out.step (ws4_ok _) (ws4_ok _) (show j < 4 from h2) (show i + 4 ≤ 8 by omega) hx hy ho
          have wx : Wd x := hx ▸ (ws4_ok _).get i
          have wy : Wd y := hy ▸ (ws4_ok _).get j
          have wo' : Wd o := ho ▸ hp.out.ok.get _
          have wc := hp.out.cw
          obtain ⟨m0, m1, m2, m3, m4, m5, m6, m7, m8⟩ := mul_step wx wy wo' wc
          have c1 := hd.kx.at h1
          have c2 := hd.ky.at h2
          have c3 := hd.outc (j := i + j) (by omega)
          rw [← hx] at c1
          rw [← hy] at c2
          rw [← ho] at c3
          obtain ⟨hi', hhi⟩ : ∃ h, h = x * y / 18446744073709551616 := ⟨_, rfl⟩
          obtain ⟨l, hl⟩ : ∃ h, h = x * y % 18446744073709551616 := ⟨_, rfl⟩
          rw [← hl] at m1 m2 m3 m4 m5 m6
          rw [← hhi] at m0 m4 m6
          obtain ⟨l1, hl1⟩ : ∃ h, h = (l + o) % 18446744073709551616 := ⟨_, rfl⟩
          obtain ⟨mo, hmo⟩ : ∃ h, h = (l + o) / 18446744073709551616 := ⟨_, rfl⟩
          have A1 := fun w => add64_0 m1 wo' hl1 hmo w
          rw [← hl1] at m3 m5 m6
          rw [← hmo] at m2 m4 m6
          obtain ⟨l2, hl2⟩ : ∃ h, h = (l1 + cv) % 18446744073709551616 := ⟨_, rfl⟩
          obtain ⟨mp, hmp⟩ : ∃ h, h = (l1 + cv) / 18446744073709551616 := ⟨_, rfl⟩
          have A2 := fun w => add64_0 m3 wc hl2 hmp w
          rw [← hl2] at m5
          rw [← hmp] at m6
          obtain ⟨h1', hh1⟩ : ∃ h, h = hi' + mo := ⟨_, rfl⟩
          obtain ⟨h2', hh2⟩ : ∃ h, h = h1' + mp := ⟨_, rfl⟩
          rw [← hh1] at m4 m6
          rw [← hh2] at m6
          rw [← m6, ← m5] at hst
          rw [← m6] at m7
          have W1 : IntKind.u64.wrap (hi' + mo) = h1' := by rw [← hh1]; exact IntWalk.u64_in _ (by have := m4.lo; have := m4.hi; omega)
          have W2 : IntKind.u64.wrap (h1' + mp) = h2' := by rw [← hh2]; exact IntWalk.u64_in _ (by have := m7.lo; have := m7.hi; omega)
          have TM := fun w => mul64_any x y wx wy w
          rw [← hhi, ← hl] at TM
          have HM := Lib.hid TM
          have OE := Lib.hid ho.symm
          have ST := Lib.hid hst
          have lx := hd.kx.lt
          have ly := hd.ky.lt
          have HD := Lib.hid hd
          clear hst hx hy ho wx wy wo' wc m0 m1 m2 m3 m4 m5 m6 m7 m8 hhi hl hl1 hmo hl2 hmp hh1 hh2 TM hd hp
          go_wp2_with fail
          have hb4 : (j : Int) < 4 := by omega
          refine wp_region_up wi.heap.size 11 [(true, 0), (true, 1), (true, 2), (true, 3), (true, 4), (true, 5), (false, 6), (true, 7), (true, 8), (true, 9), (true, 10)] (by kernel_rfl) (by kernel_rfl) (fun _ _ d _ _ h => by cases d <;> exact h) ?_
          have hb : Below wi.heap.size wi wi.drew := (Below.refl _ _).drew
          iterate 6
            refine wpS_takeL rfl rfl ?_
            go_big_quiet_step (rfl)
            refine wpQuiet_nil ?_
          refine wpS_doL rfl ?_
          intro K hK
          go_wp2_with ((go_at_call 145; refine (HM.out _).mono ?_; rintro e w2 ⟨rfl, hw⟩; have hn := below_of_eq hw))
          replace hb := hb.trans (hn.mono hb.size)
          refine hK.out _ _ (up_iff.2 hb) ?_
          clear hK K
          clear hn
          iterate 4
            refine wpS_takeL rfl rfl ?_
            go_big_quiet_step (rfl)
            refine wpQuiet_nil ?_
          refine wpS_nil ?_
          simp only [List.drop_succ_cons, List.drop_zero]
          have hd := HD.out.of hb
          clear c1 c2 c3 HM hb HD lx ly
          have c3 := hd.outc (j := i + j) (by omega)
          rw [OE.out] at c3
          have f3 := hd.ko.free (i + j)
          have HD := Lib.hid hd
          clear hd
          go_wp2
          go_roundw
          case rel => exact ⟨j + 1, h2', _, by omega, by go_num, rfl, ST.out, HD.out.put _ _⟩
          case measure => simp [intOf]; omega
        · have hj4 : j = 4 := by omega
          subst hj4
          have hst := hp.out.row (show i + 4 < 8 by omega)
          have c3 := hd.outc (j := i + 4) (by omega)
          have f3 := hd.ko.free (i + 4)
          have ST := Lib.hid hst
          have HD := Lib.hid hd
          clear hst hp hd
          go_wp2
          go_roundw
          case rel => exact ⟨i + 1, _, by omega, by go_num, ST.out, HD.out.put _ _⟩
          case measure => simp [intOf]; omega
    · have hi4 : i = 4 := by omega
      subst hi4
      obtain ⟨p1, p2⟩ := hp.out.all rfl
      rw [uval_ws4, uval_ws4, HP.out] at p2
      have hlen := hd.len
      match out, hlen with
      | [o0, o1, o2, o3, o4, o5, o6, o7], _ =>
        obtain ⟨e1, e2⟩ := eight p1 p2
        rw [HZ.out] at e1
        have kc := hd.ko
        have co : (wr.cell? ⟨b3, 0, none⟩ = some (.int .u64 o0) ∧ wr.cell? ⟨b3, 1, none⟩ = some (.int .u64 o1) ∧ wr.cell? ⟨b3, 2, none⟩ = some (.int .u64 o2) ∧ wr.cell? ⟨b3, 3, none⟩ = some (.int .u64 o3)) ∧ (wr.cell? ⟨b3, 4, none⟩ = some (.int .u64 o4) ∧ wr.cell? ⟨b3, 5, none⟩ = some (.int .u64 o5) ∧ wr.cell? ⟨b3, 6, none⟩ = some (.int .u64 o6) ∧ wr.cell? ⟨b3, 7, none⟩ = some (.int .u64 o7)) := ⟨⟨kc.cell 0, kc.cell 1, kc.cell 2, kc.cell 3⟩, kc.cell 4, kc.cell 5, kc.cell 6, kc.cell 7⟩
        have E2 := Lib.hid e2
        have HD := Lib.hid hd
        clear p1 p2 hp kc e2 hd
        cases z
        · have k0 := HD.out.k0
          have c0 := Var.c k0
          have f0 := Var.f k0
          go_wp2
          refine post_world ?_
          intro Wf hWf
          have kf : Var Wf (w.heap.size + 1 + 1) 0 := by rw [hWf]; exact Var.put4 k0 0
          have hbf : Below w.heap.size w Wf := by rw [hWf]; exact below_set4 HD.out.below (by omega) _ _ _ _
          have c := Var.c kf
          clear hWf c0 f0 co
          simp [bodyPost, results, Try.results124, go_sem, c]
          exact hbf
        · have hP : P < b256 := of_decide_eq_true HZ.out
          obtain ⟨q0, q1, q2, q3⟩ := E2.out hP
          subst q0
          subst q1
          subst q2
          subst q3
          clear hP E2
          go_wp2_with fail
          have ca := Var.c HD.out.ka
          have cb := Var.c HD.out.kb
          have la := HD.out.ka.lt
          have lb := HD.out.kb.lt
          have lo := HD.out.ko.lt
          have hu := HU.out
          have co1 := co.1
          clear co
          refine wp_region_up wr.heap.size 11 [(true, 0), (true, 1), (true, 2), (true, 3), (true, 5), (false, 4), (false, 6), (true, 7), (false, 8), (true, 9), (true, 10)] (by kernel_rfl) (by kernel_rfl) (fun _ _ d _ _ h => by cases d <;> exact h) ?_
          have hb : Below wr.heap.size wr wr.drew := (Below.refl _ _).drew
          iterate 5
            refine wpS_takeL rfl rfl ?_
            go_big_quiet_step (rfl)
            refine wpQuiet_nil ?_
          refine wpS_doL rfl ?_
          intro K hK
          go_wp2_with ((first | (go_at_call 88; refine (negative_any _ _).mono ?_; rintro e w2 ⟨rfl, hn⟩) | (go_at_call 139; refine (signedk_is P u s HS.out _).mono ?_; rintro e w3 ⟨rfl, hn⟩)))
          replace hb := hb.trans (hn.mono hb.size)
          refine hK.out _ _ (up_iff.2 hb) ?_
          clear hK K
          clear hn
          refine wpS_doL rfl ?_
          intro K hK
          go_wp2_with ((first | (go_at_call 88; refine (negative_any _ _).mono ?_; rintro e w2 ⟨rfl, hn⟩) | (go_at_call 139; refine (signedk_is P u s HS.out _).mono ?_; rintro e w3 ⟨rfl, hn⟩)))
          replace hb := hb.trans (hn.mono hb.size)
          refine hK.out _ _ (up_iff.2 hb) ?_
          clear hK K
          clear hn
          refine wpS_takeL rfl rfl ?_
          go_big_quiet_step (rfl)
          refine wpQuiet_nil ?_
          refine wpS_doL rfl ?_
          intro K hK
          go_wp2_with ((first | (go_at_call 88; refine (negative_any _ _).mono ?_; rintro e w2 ⟨rfl, hn⟩) | (go_at_call 139; refine (signedk_is P u s HS.out _).mono ?_; rintro e w3 ⟨rfl, hn⟩)))
          replace hb := hb.trans (hn.mono hb.size)
          refine hK.out _ _ (up_iff.2 hb) ?_
          clear hK K
          clear hn
          iterate 2
            refine wpS_takeL rfl rfl ?_
            go_big_quiet_step (rfl)
            refine wpQuiet_nil ?_
          refine wpS_nil ?_
          simp only [List.drop_succ_cons, List.drop_zero]
          have k0 : Var w3 (w.heap.size + 1 + 1) 0 := HD.out.k0.of hb
          have hbb := HD.out.below.trans (hb.mono HD.out.below.size)
          clear ca cb la lb lo hu co1 hb HD
          have c0 := Var.c k0
          have f0 := Var.f k0
          have K0 := Lib.hid k0
          clear k0
          go_wp2
          refine post_world ?_
          intro Wf hWf
          have kf : Var Wf (w.heap.size + 1 + 1) (bif s then sgV P u else 0) := by rw [hWf]; exact Var.put4 K0.out _
          have hbf : Below w.heap.size w Wf := by rw [hWf]; exact below_set4 hbb (by omega) _ _ _ _
          have c := Var.c kf
          clear hWf c0 f0
          simp [bodyPost, results, Try.results124, go_sem, c]
          exact hbf

theorem mul_spec {a b : Int} (ia : InI a) (ib : InI b) (u : Bool) (hu : (ng a != ng b) = u) (P : Int) (hP : sz a * sz b = P) :
    (decide (P < b256) && sgB P u) = okI (a * b) ∧ (bif u then -P else P) = a * b ∧ 0 ≤ P := by
  have ha := sz_in ia
  have hb := sz_in ib
  have na := ng_in ia
  have nb := ng_in ib
  have hp0 : 0 ≤ P := by rw [← hP, ha, hb]; exact Int.mul_nonneg (by omega) (by omega)
  have hv : (bif u then -P else P) = a * b := by
    rw [← hu, ← hP, ha, hb, na, nb]
    rcases Int.lt_or_le a 0 with h1 | h1 <;> rcases Int.lt_or_le b 0 with h2 | h2
    · rw [Int.ofNat_natAbs_of_nonpos (by omega), Int.ofNat_natAbs_of_nonpos (by omega)]; simp [h1, h2, Int.neg_mul_neg]
    · rw [Int.ofNat_natAbs_of_nonpos (by omega), Int.natAbs_of_nonneg h2]; simp [h1, Int.not_lt.2 h2, Int.neg_mul]
    · rw [Int.natAbs_of_nonneg h1, Int.ofNat_natAbs_of_nonpos (by omega)]; simp [h2, Int.not_lt.2 h1, Int.mul_neg]
    · rw [Int.natAbs_of_nonneg h1, Int.natAbs_of_nonneg h2]; simp [Int.not_lt.2 h1, Int.not_lt.2 h2]
  refine ⟨?_, hv, hp0⟩
  rw [← hv]
  rw [Bool.eq_iff_iff]
  unfold okI
  rw [Bool.and_eq_true, decide_eq_true_iff, decide_eq_true_iff]
  unfold sgB InI
  cases u
  · rw [cond_false, cond_false, Bool.not_eq_true', ← Bool.not_eq_true, ng_iff]
    unfold b255 b256 at *; omega
  · rw [cond_true, cond_true, Bool.or_eq_true, ng_iff, eq4_0, decide_eq_true_iff]
    unfold b255 b256 at *; omega

theorem Mul_ok (x y : Int) (w : World) (ix : InI x) (iy : InI y) : Calls Try.prog 124 #[wI x, wI y] w fun e w' => e = .returned (.tuple #[wI (bif okI (x * y) then x * y else 0), .bool (okI (x * y))]) ∧ Below w.heap.size w w' := by
  obtain ⟨u, hu⟩ : ∃ u, (ng x != ng y) = u := ⟨_, rfl⟩
  obtain ⟨P, hP⟩ : ∃ P, sz x * sz y = P := ⟨_, rfl⟩
  obtain ⟨h1, h2, h3⟩ := mul_spec ix iy u hu P hP
  have b1 := sz_bd ix
  have b2 := sz_bd iy
  have e1 : sz x % b256 = sz x := Int.emod_eq_of_lt b1.1 (by unfold b255 b256 at *; omega)
  have e2 : sz y % b256 = sz y := Int.emod_eq_of_lt b2.1 (by unfold b255 b256 at *; omega)
  have T := Mul_go x y w u (by rw [← hu]; cases ng x <;> cases ng y <;> rfl) P (by rw [e1, e2]; exact hP) _ rfl _ rfl
  rw [h1] at T
  unfold sgV at T
  rw [h2] at T
  exact T
theorem Mul_is (x y : Int) (o : Bool) (ho : okI (x * y) = o) (p : Int) (hp : (bif o then x * y else 0) = p) (w : World) (ix : InI x) (iy : InI y) :
    Calls Try.prog 124 #[wI x, wI y] w fun e w' => e = .returned (.tuple #[wI p, .bool o]) ∧ Below w.heap.size w w' := by
  subst ho; subst hp; exact Mul_ok x y w ix iy
theorem Add_is (x y : Int) (o : Bool) (ho : okI (x + y) = o) (p : Int) (hp : (bif o then x + y else 0) = p) (w : World) (ix : InI x) (iy : InI y) :
    Calls Try.prog 122 #[wI x, wI y] w fun e w' => e = .returned (.tuple #[wI p, .bool o]) ∧ Below w.heap.size w w' := by
  subst ho; subst hp; exact Add_ok x y w ix iy
theorem Sub_is (x y : Int) (o : Bool) (ho : okI (x - y) = o) (p : Int) (hp : (bif o then x - y else 0) = p) (w : World) (ix : InI x) (iy : InI y) :
    Calls Try.prog 123 #[wI x, wI y] w fun e w' => e = .returned (.tuple #[wI p, .bool o]) ∧ Below w.heap.size w w' := by
  subst ho; subst hp; exact Sub_ok x y w ix iy
end Go.Proofs.Ytlcbomjdbdgbmaa
namespace Go.Proofs.Ytlcbomjdbdgbmaa
open Go.RowKit

/-- the Go value of a point -/
abbrev pC (x y : Int) : Array Value := #[.int .i64 x, .int .i64 y]
abbrev pI (x y : Int) : Value := .agg (pC x y)
/-- may a number be a coordinate? -/
def inC (x : Int) : Bool := decide (-2199023255552 ≤ x) && decide (x ≤ 2199023255552)

theorem within_any (x : Int) (w : World) : Calls Try.prog 79 #[.int .i64 x] w fun e w' => e = .returned (.bool (inC x)) ∧ Below w.heap.size w w' := by
  unfold inC
  by_cases h : -2199023255552 ≤ x <;> by_cases h2 : x ≤ 2199023255552
  all_goals
    go_enter Try.func79, Try.ntmps79
    go_wp2
    go_ret
    exact ⟨by simp [h, h2], Below.refl _ _⟩

set_option maxRecDepth 100000 in
set_option maxHeartbeats 1000000 in
theorem PtRight_any (x y : Int) (w : World) : Calls Try.prog 17 #[pI x y] w fun e w' => e = .returned (.bool (inC x && inC y)) ∧ Below w.heap.size w w' := by
  obtain ⟨bx, hbx⟩ : ∃ b, inC x = b := ⟨_, rfl⟩
  obtain ⟨by', hby⟩ : ∃ b, inC y = b := ⟨_, rfl⟩
  rw [hbx, hby]
  have HX := Lib.hid hbx
  have HY := Lib.hid hby
  clear hbx hby
  go_enter Try.func17, Try.ntmps17
  go_wp2_with fail
  refine (within_any x _).mono ?_
  rintro e w2 ⟨rfl, hn⟩
  rw [HX.out]
  have kp : Blk w2 w.heap.size (pC x y) 24 := (Blk.new w _ _).of hn
  have hb0 := (below_a1 w _).trans (hn.mono (by simp))
  have c0 := kp.cell 0
  have c1 := kp.cell 1
  have l0 := kp.lt
  clear kp
  cases bx
  · go_wp2
    go_ret
    exact ⟨rfl, hb0⟩
  · go_wp2_with fail
    refine (within_any y _).mono ?_
    rintro e w3 ⟨rfl, hn3⟩
    rw [HY.out]
    go_wp2
    go_ret
    exact ⟨by simp, hb0.trans (hn3.mono hb0.size)⟩
end Go.Proofs.Ytlcbomjdbdgbmaa

namespace Go.Proofs.Ytlcbomjdbdgbmaa
open Go.RowKit

/-- a variable that holds a point -/
abbrev PVar (w : World) (b : Nat) (x y : Int) : Prop := Blk w b (pC x y) 24
theorem PVar.c {w : World} {b : Nat} {x y : Int} (h : PVar w b x y) : w.cell? ⟨b, 0, none⟩ = some (.int .i64 x) ∧ w.cell? ⟨b, 1, none⟩ = some (.int .i64 y) := ⟨h.cell 0, h.cell 1⟩

end Go.Proofs.Ytlcbomjdbdgbmaa
namespace Go.Proofs.Ytlcbomjdbdgbmaa
open Go.RowKit

/-- a slice of points -/
structure Pts (w : World) (ao : Option Addr) (n cap : Nat) (X Y : Nat → Int) : Prop where
  ptr : 0 < n → ∃ a, ao = some a ∧ a.block < w.heap.size ∧ ∀ i, i < n → w.cell? (a.add (i * 2)) = some (.int .i64 (X i)) ∧ w.cell? ((a.add (i * 2)).add 1) = some (.int .i64 (Y i))
  capl : n ≤ cap
  capb : cap ≤ 9223372036854775807
theorem Pts.of {w w' : World} {ao : Option Addr} {n cap : Nat} {X Y : Nat → Int} (h : Pts w ao n cap X Y) (hb : Below w.heap.size w w') : Pts w' ao n cap X Y := by
  refine ⟨fun h0 => ?_, h.capl, h.capb⟩
  obtain ⟨a, h1, h2, h3⟩ := h.ptr h0
  refine ⟨a, h1, Nat.lt_of_lt_of_le h2 hb.size, fun i hi => ?_⟩
  have e1 : ∀ k, (a.add k).block = a.block := fun k => by unfold Addr.add; split <;> rfl
  have e2 : ∀ k l, ((a.add k).add l).block = a.block := fun k l => by unfold Addr.add; split <;> split <;> rfl
  rw [hb.cell (by rw [e1]; exact h2), hb.cell (by rw [e2]; exact h2)]
  exact h3 i hi
/-- three, four values by their number -/
def f3 (a b c : Int) : Nat → Int | 0 => a | 1 => b | _ => c
def f4 (a b c d : Int) : Nat → Int | 0 => a | 1 => b | 2 => c | _ => d
/-- may it be a point? -/
def rp (x y : Int) : Bool := inC x && inC y
end Go.Proofs.Ytlcbomjdbdgbmaa
namespace Go.Proofs.Ytlcbomjdbdgbmaa
open Go.RowKit

end Go.Proofs.Ytlcbomjdbdgbmaa
namespace Go.Proofs.Ytlcbomjdbdgbmaa
open Go.RowKit

end Go.Proofs.Ytlcbomjdbdgbmaa
namespace Go.Proofs.Ytlcbomjdbdgbmaa
open Go.RowKit

end Go.Proofs.Ytlcbomjdbdgbmaa
namespace Go.Proofs.Ytlcbomjdbdgbmaa
open Go.RowKit

end Go.Proofs.Ytlcbomjdbdgbmaa
namespace Go.Proofs.Ytlcbomjdbdgbmaa
open Go.RowKit

set_option maxRecDepth 100000 in
set_option maxHeartbeats 1000000 in
theorem rRight_any (x y : Int) (w : World) : Calls Try.prog 26 #[pI x y] w fun e w' => e = .returned (.bool (rp x y)) ∧ Below w.heap.size w w' := by
  obtain ⟨t, ht⟩ : ∃ t, rp x y = t := ⟨_, rfl⟩
  rw [ht]
  have HT := Lib.hid ht
  clear ht
  by_cases h1 : -2199023255552 ≤ x <;> by_cases h2 : x ≤ 2199023255552 <;> by_cases h3 : -2199023255552 ≤ y <;> by_cases h4 : y ≤ 2199023255552
  all_goals first | (exfalso; omega) | skip
  all_goals
    go_enter Try.func26, Try.ntmps26
    go_wp2
    go_ret
    refine ⟨congrArg (fun t => Ending.returned (.bool t)) ?_, below_a1 _ _⟩
    rw [← HT.out]; unfold rp inC; rw [Bool.eq_iff_iff]; simp; omega

end Go.Proofs.Ytlcbomjdbdgbmaa
namespace Go.Proofs.Ytlcbomjdbdgbmaa
open Go.RowKit

end Go.Proofs.Ytlcbomjdbdgbmaa

namespace Go.Proofs.Ytlcbomjdbdgbmaa
open Go.RowKit

/-- a row of stores -/
@[reducible] def setL : World → Nat → Nat → List Value → World
  | w, _, _, [] => w
  | w, b, o, v :: l => setL (w.setCell ⟨b, o, none⟩ v) b (o + 1) l
def putA : Array Value → Nat → List Value → Array Value
  | c, _, [] => c
  | c, o, v :: l => putA (c.setIfInBounds o v) (o + 1) l
theorem size_setL (w : World) (b o : Nat) (l : List Value) : (setL w b o l).heap.size = w.heap.size := by
  induction l generalizing w o with
  | nil => rfl
  | cons v l ih => unfold setL; rw [ih, size_set]
theorem blk_setL {w : World} {b b' : Nat} {c : Array Value} {t : TypeId} (h : Blk w b c t) (hne : b ≠ b') (o : Nat) (l : List Value) : Blk (setL w b' o l) b c t := by
  induction l generalizing w o with
  | nil => exact h
  | cons v l ih => unfold setL; exact ih (h.set hne _ _ _) _
theorem blk_putL {w : World} {b : Nat} {c : Array Value} {t : TypeId} (h : Blk w b c t) (o : Nat) (l : List Value) : Blk (setL w b o l) b (putA c o l) t := by
  induction l generalizing w o c with
  | nil => exact h
  | cons v l ih => unfold setL putA; exact ih (h.put _ _) _
theorem putA_full (p q l : List Value) (h : q.length = l.length) : putA (p ++ q).toArray p.length l = (p ++ l).toArray := by
  induction l generalizing p q with
  | nil => cases q with
    | nil => rfl
    | cons x q => cases h
  | cons v l ih => cases q with
    | nil => cases h
    | cons x q =>
      unfold putA
      have e : ((p ++ x :: q).toArray.setIfInBounds p.length v) = ((p ++ [v]) ++ q).toArray := by simp
      rw [e, show p.length + 1 = (p ++ [v]).length by simp, ih (p ++ [v]) q (by simpa using h)]
      simp
theorem blk_full {w : World} {b : Nat} {t : TypeId} (q l : List Value) (h : Blk w b q.toArray t) (hl : q.length = l.length) : Blk (setL w b 0 l) b l.toArray t := by
  have := blk_putL h 0 l
  rw [show putA q.toArray 0 l = l.toArray from putA_full [] q l hl] at this
  exact this
theorem blw_setL {B : Nat} {W w : World} {b : Nat} (h : Below B W w) (hB : B ≤ b) (o : Nat) (l : List Value) : Below B W (setL w b o l) := by
  induction l generalizing w o with
  | nil => exact h
  | cons v l ih => unfold setL; exact ih (h.setCell hB _) _
theorem blw_al {W w : World} (h : Below W.heap.size W w) (o : Obj) : Below W.heap.size W (w.alloc o) := h.alloc h.size o
theorem below_a4 (w : World) (o1 o2 o3 o4 : Obj) : Below w.heap.size w ((((w.alloc o1).alloc o2).alloc o3).alloc o4) := blw_al (below_a3 w o1 o2 o3) _
theorem args_eq {f : FuncId} {a a' : Array Value} {w : World} {R : Ending → World → Prop} (h : Calls Try.prog f a w R) (ha : a = a') : Calls Try.prog f a' w R := ha ▸ h
theorem wrap64_in (x : Int) : In64 (wrap64 x) := by unfold wrap64 In64; omega
theorem wrap64_id {x : Int} (h : In64 x) : wrap64 x = x := by unfold wrap64; unfold In64 at h; omega
theorem cond_in {e : Bool} {a b : Int} (ha : InI a) (hb : InI b) : InI (bif e then a else b) := by cases e; exact hb; exact ha
theorem in_0 : InI 0 := by unfold InI b255; omega
theorem in64_I' {x : Int} (h : In64 x) : InI x := by unfold In64 at h; unfold InI b255; omega
/-- the product, if it fits; else 0 -/
def mulv (x y : Int) : Int := bif okI (x * y) then x * y else 0
def addv (x y : Int) : Int := bif okI (x + y) then x + y else 0
def subv (x y : Int) : Int := bif okI (x - y) then x - y else 0
theorem ok_in {z : Int} : InI (bif okI z then z else 0) := by
  cases h : okI z
  · exact in_0
  · exact of_decide_eq_true h
theorem mulv_in (x y : Int) : InI (mulv x y) := ok_in
theorem addv_in (x y : Int) : InI (addv x y) := ok_in
theorem subv_in (x y : Int) : InI (subv x y) := ok_in
theorem Mul_v (x y p : Int) (o : Bool) (hp : mulv x y = p) (ho : okI (x * y) = o) (ix : InI x) (iy : InI y) (w : World) :
    Calls Try.prog 124 #[wI x, wI y] w fun e w' => e = .returned (.tuple #[wI p, .bool o]) ∧ Below w.heap.size w w' := by
  refine Mul_is x y o ho p ?_ w ix iy
  rw [← ho]; exact hp
theorem Add_v (x y p : Int) (o : Bool) (hp : addv x y = p) (ho : okI (x + y) = o) (ix : InI x) (iy : InI y) (w : World) :
    Calls Try.prog 122 #[wI x, wI y] w fun e w' => e = .returned (.tuple #[wI p, .bool o]) ∧ Below w.heap.size w w' := by
  refine Add_is x y o ho p ?_ w ix iy
  rw [← ho]; exact hp
theorem Sub_v (x y p : Int) (o : Bool) (hp : subv x y = p) (ho : okI (x - y) = o) (ix : InI x) (iy : InI y) (w : World) :
    Calls Try.prog 123 #[wI x, wI y] w fun e w' => e = .returned (.tuple #[wI p, .bool o]) ∧ Below w.heap.size w w' := by
  refine Sub_is x y o ho p ?_ w ix iy
  rw [← ho]; exact hp
def dvq (x y : Int) : Int := bif dvOk x y then fq x y else 0
def dvr (x y : Int) : Int := bif dvOk x y then fr x y else 0
theorem Div_v (x y q r : Int) (o : Bool) (hq : dvq x y = q) (hr : dvr x y = r) (ho : dvOk x y = o) (ix : InI x) (iy : InI y) (w : World) :
    Calls Try.prog 109 #[wI x, wI y] w fun e w' => e = .returned (.tuple #[wI q, wI r, .bool o]) ∧ Below w.heap.size w w' := by
  have T := Div_any x y w ix iy
  unfold dvq at hq; unfold dvr at hr
  rw [ho] at T hq hr
  subst hq; subst hr
  cases o <;> exact T
theorem dv_in {x y : Int} (ix : InI x) (iy : InI y) (h : dvOk x y = true) : InI (fq x y) ∧ InI (fr x y) := by
  unfold dvOk at h
  simp only [Bool.and_eq_true, decide_eq_true_eq] at h
  obtain ⟨s1, _, n0, n1, _, _⟩ := dv_spec ix iy h.1
  refine ⟨⟨?_, h.2⟩, ?_⟩
  · rw [← s1]
    clear s1
    generalize (ng x != ng y) = u at n0 n1 ⊢
    cases u
    · rw [cond_false]; unfold b255 at *; omega
    · rw [cond_true]; unfold b255 at *; omega
  · obtain ⟨j1, j2⟩ := iy
    rcases Int.lt_or_gt_of_ne h.1 with hn | hp
    · have := fr_neg (x := x) hn; unfold b255 at *; exact ⟨by unfold b255; omega, by unfold b255; omega⟩
    · have := fr_pos (x := x) hp; unfold b255 at *; exact ⟨by unfold b255; omega, by unfold b255; omega⟩
theorem dvq_in {x y : Int} (ix : InI x) (iy : InI y) : InI (dvq x y) := by
  unfold dvq
  cases h : dvOk x y
  · exact in_0
  · exact (dv_in ix iy h).1
theorem Cmp_v (x y c : Int) (h : cmpI x y = c) (ix : InI x) (iy : InI y) (w : World) :
    Calls Try.prog 107 #[wI x, wI y] w fun e w' => e = .returned (.int .i64 c) ∧ Below w.heap.size w w' := h ▸ Cmp_any x y w ix iy
theorem Sign_v (x c : Int) (h : x.sign = c) (ix : InI x) (w : World) :
    Calls Try.prog 22 #[wI x] w fun e w' => e = .returned (.int .i64 c) ∧ Below w.heap.size w w' := h ▸ Sign_any x w ix
theorem Of_v (n d : Int) (h : n = d) (g : In64 n) (w : World) :
    Calls Try.prog 62 #[.int .i64 n] w fun e w' => e = .returned (wI d) ∧ Below w.heap.size w w' := h ▸ Of_any n w g
theorem PtRight_v (ax ay : Int) (c : Bool) (h : rp ax ay = c) (w : World) :
    Calls Try.prog 17 #[pI ax ay] w fun e w' => e = .returned (.bool c) ∧ Below w.heap.size w w' := h ▸ PtRight_any ax ay w
def smk (x : Int) : Int := bif decide (In64 x) then x else 0
theorem Small_v (x c : Int) (o : Bool) (hc : smk x = c) (ho : decide (In64 x) = o) (ix : InI x) (w : World) :
    Calls Try.prog 110 #[wI x] w fun e w' => e = .returned (.tuple #[.int .i64 c, .bool o]) ∧ Below w.heap.size w w' := by
  have T := Small_any x w ix o ho
  unfold smk at hc; rw [ho] at hc; rw [hc] at T; exact T
@[go_sem] theorem eq4_self (a b c d : Int) : eq4 a b c d a b c d = true := by unfold eq4; simp
@[go_sem] theorem eq4_00 : eq4 (wd0 0) (wd1 0) (wd2 0) (wd3 0) 0 0 0 0 = true := by decide
/-- two points alike? -/
def eqP (ax ay bx b_y : Int) : Bool := ax == bx && ay == b_y
theorem run_eqP0 (a b c d : Int) (w : World) :
    (Op.equalIn 10000 24 (.agg #[.int .i64 a, .int .i64 b]) (.agg #[.int .i64 c, .int .i64 d])).run Try.prog w = .ok (eqP a b c d) w := by
  unfold eqP
  by_cases h0 : a = c <;> by_cases h1 : b = d
  all_goals go_simp
@[go_sem] theorem run_eqlP (a b c d : Int) (w : World) :
    (binOp .eql 24 (.agg #[.int .i64 a, .int .i64 b]) (.agg #[.int .i64 c, .int .i64 d])).run Try.prog w = .ok (.bool (eqP a b c d)) w := by
  rw [run_eql_struct, run_eqP0]; rfl
@[go_sem] theorem run_neqP (a b c d : Int) (w : World) :
    (binOp .neq 24 (.agg #[.int .i64 a, .int .i64 b]) (.agg #[.int .i64 c, .int .i64 d])).run Try.prog w = .ok (.bool (!eqP a b c d)) w := by
  rw [run_neq_struct, run_eqP0]; rfl
end Go.Proofs.Ytlcbomjdbdgbmaa

namespace Go.Proofs.Ytlcbomjdbdgbmaa
open Go.RowKit

end Go.Proofs.Ytlcbomjdbdgbmaa
namespace Go.Proofs.Ytlcbomjdbdgbmaa
open Go.ChangeShapes Go.WideShapes Go.ChangeAt Go.RowKit Go.Joins

theorem own : ownKnob Try.prog.godebug = none := by kernel_rfl
theorem laidOut : laidOutB Try.prog = true := by kernel_rfl

theorem in64_wf {x : Int} (h : (Lit.int .i64 x).wf = true) : In64 x := by
  simp [Lit.wf, IntKind.min, IntKind.max, IntKind.signed, IntKind.bits] at h
  unfold In64; omega

section
variable {H : Type} {enc : TypeId × Value → H} {w : World} {base : Nat} {spare : Nat → Bool} {held : Bool}

end
end Go.Proofs.Ytlcbomjdbdgbmaa
namespace Go.Proofs.Ytlcbomjdbdgbmaa
open Go.ChangeShapes Go.WideShapes Go.ChangeAt Go.RowKit Go.Joins
section
variable {H : Type} {enc : TypeId × Value → H} {w : World} {base : Nat} {spare : Nat → Bool} {held : Bool}
set_option maxRecDepth 100000 in
theorem open_point {r : Reach} {b0 : Nat} {v : Value} {d : DataW H} {p : List MemPlace} (hv : Value.okWide Try.prog w r b0 24 v) (h : DataW.Trod enc Try.prog w base spare held 24 v d p) :
    ∃ x y, In64 x ∧ In64 y ∧ v = pI x y := by
  obtain ⟨v0, v1, y0, y1, n, rfl, _, _, t0, t1⟩ := open_agg2 Try.underlying24 (by kernel_rfl) (by kernel_rfl) hv h
  obtain ⟨a0, e0, _, g0⟩ := DataW.trod_int Try.underlying3 t0
  obtain ⟨a1, e1, _, g1⟩ := DataW.trod_int Try.underlying3 t1
  simp at e0 e1
  exact ⟨a0, a1, in64_wf g0, in64_wf g1, by rw [e0, e1]⟩
end
section
variable {H : Type} {enc : TypeId × Value → H} {w : World} {base : Nat} {spare : Nat → Bool} {held : Bool}
theorem open_pt2 {fuel : Nat} {c0 c1 : Value} {x : DataW H × List MemPlace} (h : DataW.trod enc Try.prog w base spare held fuel 24 [c0, c1] = some x) :
    ∃ a b, In64 a ∧ In64 b ∧ c0 = .int .i64 a ∧ c1 = .int .i64 b := by
  obtain ⟨xs, k, _, hx, _, hlen, hg⟩ := DataW.trod_struct Try.underlying24 h
  have hC1 : Try.prog.cellsOf 3 = 1 := by kernel_rfl
  match xs, hlen with
  | [y0, y1], _ =>
    have g0 := hg 0 _ rfl
    have g1 := hg 1 _ rfl
    simp [hC1] at g0 g1
    obtain ⟨a0, e0, _, k0⟩ := DataW.trod_int Try.underlying3 g0
    obtain ⟨a1, e1, _, k1⟩ := DataW.trod_int Try.underlying3 g1
    simp at e0 e1
    exact ⟨a0, a1, in64_wf k0, in64_wf k1, e0, e1⟩
end
end Go.Proofs.Ytlcbomjdbdgbmaa
namespace Go.Proofs.Ytlcbomjdbdgbmaa
open Go.RowKit

theorem ws1 {W : World} {b : Nat} {u : Int} {t : TypeId} (hu : Wd u) (h : Blk W b #[.int .u64 u] t) : Ws W b [u] :=
  ⟨fun i hi => by
    match i, hi with
    | 0, _ => exact h.cell 0, h.lt, fun d hd => by rw [List.mem_singleton.1 hd]; exact hu, by simp⟩

set_option maxRecDepth 100000 in
set_option maxHeartbeats 1000000 in
theorem bigOf_pos (n : Int) (w : World) (h0 : 0 ≤ n) (h1 : n < 9223372036854775808) : Calls Try.prog 66 #[.int .i64 n] w (GivesBig w n 5) := by
  go_enter Try.func66, Try.ntmps66
  go_wp2_with fail
  refine calls_w ?_
  intro W hW
  have k0 : Blk W w.heap.size #[.bool false, .slice none 0 0] 28 := by rw [hW]; exact (Blk.new w _ _).alloc _
  have kl : Blk W (w.heap.size + 1) #[.int .u64 n] 33 := by rw [hW]; exact Blk.new1 w _ _ _
  have hb0 : Below w.heap.size w W := by rw [hW]; exact below_a2 _ _ _
  clear hW
  have T := Words_any (w.heap.size + 1) 1 1 [n] W (ws1 ⟨h0, by omega⟩ kl) rfl
  rw [show uval [n] = n by simp [uval]] at T
  refine T.mono ?_
  clear T
  rintro e u1 ⟨vm, rfl, hbm, hn⟩
  replace k0 := k0.of hn
  replace hb0 := hb0.trans (hn.mono hb0.size)
  have HBG := Lib.hid hbm
  have hvm := hbm.shape
  clear hbm hn kl
  obtain ⟨n5, a5, q5, c5, rfl⟩ := hvm
  have d0 := k0.cell 0
  have d1 := k0.cell 1
  have f0 := k0.free 0
  have f1 := k0.free 1
  simp only [List.getElem?_toArray, List.getElem?_cons_zero, List.getElem?_cons_succ] at d0 d1
  clear k0
  go_wp2
  simp [bodyPost, results, Try.results66, go_sem, d0, d1]
  exact ⟨_, rfl, HBG.out.set2 d0 (.bool n5) (.slice a5 q5 c5), set2_below hb0 (Nat.le_refl _) _ _⟩

set_option maxRecDepth 100000 in
set_option maxHeartbeats 1000000 in
theorem bigOf_neg (n : Int) (w : World) (h0 : n < 0) (h1 : -9223372036854775808 ≤ n) : Calls Try.prog 66 #[.int .i64 n] w (GivesBig w n 5) := by
  have hn0 : ¬ 0 ≤ n := by omega
  go_enter Try.func66, Try.ntmps66
  go_wp2_with fail
  refine calls_w ?_
  intro W hW
  have k0 : Blk W w.heap.size #[.bool false, .slice none 0 0] 28 := by rw [hW]; exact (Blk.new w _ _).alloc _
  have kl : Blk W (w.heap.size + 1) #[.int .u64 (-(n + 1) + 1)] 33 := by rw [hW]; exact Blk.new1 w _ _ _
  have hb0 : Below w.heap.size w W := by rw [hW]; exact below_a2 _ _ _
  clear hW
  have T := Words_any (w.heap.size + 1) 1 1 [-(n + 1) + 1] W (ws1 ⟨by omega, by omega⟩ kl) rfl
  rw [show uval [-(n + 1) + 1] = -n by simp [uval]; omega] at T
  refine T.mono ?_
  clear T
  rintro e u1 ⟨vm, rfl, hbm, hn⟩
  replace k0 := k0.of hn
  replace hb0 := hb0.trans (hn.mono hb0.size)
  have HB1 := Lib.hid hbm
  have hvm := hbm.shape
  clear hbm hn kl
  obtain ⟨n4, a4, q4, c4, rfl⟩ := hvm
  go_wp2_with fail
  have T := Minus_any _ _ _ _ HB1.out
  rw [Int.neg_neg] at T
  refine T.mono ?_
  clear T
  rintro e u2 ⟨vm, rfl, hbm, hn⟩
  replace k0 := k0.of hn
  replace hb0 := hb0.trans (hn.mono hb0.size)
  have HBG := Lib.hid hbm
  have hvm := hbm.shape
  clear hbm hn HB1
  obtain ⟨n5, a5, q5, c5, rfl⟩ := hvm
  have d0 := k0.cell 0
  have d1 := k0.cell 1
  have f0 := k0.free 0
  have f1 := k0.free 1
  simp only [List.getElem?_toArray, List.getElem?_cons_zero, List.getElem?_cons_succ] at d0 d1
  clear k0
  go_wp2
  simp [bodyPost, results, Try.results66, go_sem, d0, d1]
  exact ⟨_, rfl, HBG.out.set2 d0 (.bool n5) (.slice a5 q5 c5), set2_below hb0 (Nat.le_refl _) _ _⟩
theorem bigOf_any (n : Int) (w : World) (h : In64 n) : Calls Try.prog 66 #[.int .i64 n] w (GivesBig w n 5) := by
  by_cases h0 : 0 ≤ n
  · exact bigOf_pos n w h0 h.2
  · exact bigOf_neg n w (by omega) h.1
end Go.Proofs.Ytlcbomjdbdgbmaa
namespace Go.Proofs.Ytlcbomjdbdgbmaa
open Go.RowKit

end Go.Proofs.Ytlcbomjdbdgbmaa
namespace Go.Proofs.Ytlcbomjdbdgbmaa
open Go.RowKit

/-- a variable that holds a point of the document's answer -/
abbrev QVar (w : World) (b : Nat) (x y : Int) : Prop := Blk w b (pC x y) 31
theorem QVar.c {w : World} {b : Nat} {x y : Int} (h : QVar w b x y) : w.cell? ⟨b, 0, none⟩ = some (.int .i64 x) ∧ w.cell? ⟨b, 1, none⟩ = some (.int .i64 y) := ⟨h.cell 0, h.cell 1⟩
end Go.Proofs.Ytlcbomjdbdgbmaa
namespace Go.Proofs.Ytlcbomjdbdgbmaa
open Go.RowKit

end Go.Proofs.Ytlcbomjdbdgbmaa
namespace Go.Proofs.Ytlcbomjdbdgbmaa
open Go.RowKit

theorem Blk.put2 {w : World} {b : Nat} {p q : Value} {t : TypeId} (h : Blk w b #[p, q] t) (u v : Value) : Blk ((w.setCell ⟨b, 0, none⟩ u).setCell ⟨b, 1, none⟩ v) b #[u, v] t := (h.put 0 u).put 1 v
end Go.Proofs.Ytlcbomjdbdgbmaa

namespace Go.Proofs.Ytlcbomjdbdgbmaa
open Go.RowKit

theorem heap_setL (w : World) (b o : Nat) (l : List Value) (k : Nat) (hk : k ≠ b) : (setL w b o l).heap[k]? = w.heap[k]? := by
  induction l generalizing w o with
  | nil => rfl
  | cons v l ih => unfold setL; rw [ih, Below.heap_setCell _ _ _ _ hk]
theorem big_setL {w : World} {v : Value} {n : Int} {L b : Nat} (h : Big w v n L) {x : Value} (hd : w.cell? ⟨b, 0, none⟩ = some x) (hx : ∀ i, x ≠ .int .i64 i) (o : Nat) (l : List Value) : Big (setL w b o l) v n L := by
  obtain ⟨neg, ao, b3, cap, ds, h1, h2, h3⟩ := h
  have hne : 0 < ds.length → b3 ≠ b := by
    intro h0 e
    have := h2.cell 0 h0
    rw [e, hd] at this
    exact hx _ (Option.some.inj this)
  refine ⟨neg, ao, b3, cap, ds, h1, ⟨h2.ptr, h2.nil, h2.capl, h2.len, h2.capb, fun i hi => ?_, fun hl => ?_⟩, h3⟩
  · have e := h2.cell i hi
    unfold World.cell? at e ⊢
    rw [heap_setL _ _ _ _ _ (hne (by omega))]; exact e
  · rw [size_setL]; exact h2.blk hl
theorem bigOf_v (n d : Int) (h : n = d) (g : In64 n) (w : World) : Calls Try.prog 66 #[.int .i64 n] w (GivesBig w d 5) := h ▸ bigOf_any n w g
theorem bigMul_v (v v' : Value) (n m p : Int) (L L' : Nat) (hp : n * m = p) (w : World) (h : Big w v n L) (h' : Big w v' m L') (hL : L + L' < 268435456) :
    Calls Try.prog 65 #[v, v'] w (GivesBig w p (L + L')) := hp ▸ bigMul_any v v' n m L L' w h h' hL
theorem bigAdd_v (v v' : Value) (n m p : Int) (L : Nat) (hp : n + m = p) (w : World) (h : Big w v n L) (h' : Big w v' m L) (hL : L < 268435456) :
    Calls Try.prog 18 #[v, v'] w (GivesBig w p (L + 1)) := hp ▸ bigAdd_any v v' n m L w h h' hL
theorem bigSub_v (v v' : Value) (n m p : Int) (L : Nat) (hp : n - m = p) (w : World) (h : Big w v n L) (h' : Big w v' m L) (hL : L < 268435456) :
    Calls Try.prog 68 #[v, v'] w (GivesBig w p (L + 1)) := hp ▸ bigSub_any v v' n m L w h h' hL
theorem bigMinus_v (v : Value) (n p : Int) (L : Nat) (hp : -n = p) (w : World) (h : Big w v n L) : Calls Try.prog 25 #[v] w (GivesBig w p L) := hp ▸ Minus_any v n L w h
theorem bigCmp_v (v v' : Value) (n m : Int) (L L' : Nat) (c : Int) (hc : cmpI n m = c) (w : World) (h : Big w v n L) (h' : Big w v' m L') :
    Calls Try.prog 23 #[v, v'] w fun e w' => e = .returned (.int .i64 c) ∧ Below w.heap.size w w' := hc ▸ bigCmp_any v v' n m L L' w h h'
theorem bigSign_v (v : Value) (n : Int) (L : Nat) (s : Int) (hs : n.sign = s) (w : World) (h : Big w v n L) :
    Calls Try.prog 67 #[v] w fun e w' => e = .returned (.int .i64 s) ∧ Below w.heap.size w w' := hs ▸ bigSign_any v n L w h
theorem Read_v (x d : Int) (h : x = d) (ix : InI x) (w : World) : Calls Try.prog 24 #[wI x] w (GivesBig w d 18) := by
  have := Read_any x w
  have e : sg x = d := (sg_id ix).trans h
  rw [e] at this
  exact this
theorem rRight_v (ax ay : Int) (c : Bool) (h : rp ax ay = c) (w : World) : Calls Try.prog 26 #[pI ax ay] w fun e w' => e = .returned (.bool c) ∧ Below w.heap.size w w' := h ▸ rRight_any ax ay w
end Go.Proofs.Ytlcbomjdbdgbmaa

namespace Go.Proofs.Ytlcbomjdbdgbmaa
open Go.RowKit

theorem k_world {K : Act → World → Prop} {a : Act} {w : World} (h : ∀ W, W = w → K a W) : K a w := h w rfl
end Go.Proofs.Ytlcbomjdbdgbmaa

namespace Go.Proofs.Ytlcbomjdbdgbmaa
open Go.RowKit

/-- a slice's live rows: n rows of some cells each, in block g -/
def Row (w : World) (g cap n size : Nat) (e : TypeId) (f : Nat → Nat → Value) : Prop :=
  ∃ cur : Array Value, w.heap[g]? = some (.cells cur e (0, 0)) ∧ n ≤ cap ∧ cap ≤ maxLen ∧ cur.size = cap * size ∧ ∀ i, i < n → ∀ j, j < size → cur[i * size + j]? = some (f i j)
section
variable {w w' W : World} {g cap n size : Nat} {e : TypeId} {f f' : Nat → Nat → Value}
theorem Row.lt (h : Row w g cap n size e f) : g < w.heap.size := by obtain ⟨cur, h, _⟩ := h; exact (Array.getElem?_eq_some_iff.1 h).1
theorem Row.same (h : Row w g cap n size e f) (hg : w'.heap[g]? = w.heap[g]?) : Row w' g cap n size e f := by obtain ⟨cur, h, r⟩ := h; exact ⟨cur, hg.trans h, r⟩
theorem Row.of (h : Row w g cap n size e f) (hb : Below w.heap.size w w') : Row w' g cap n size e f := h.same (hb.block _ h.lt)
theorem Row.le (h : Row w g cap n size e f) : n ≤ cap := by obtain ⟨_, _, h, _⟩ := h; exact h
theorem Row.capb (h : Row w g cap n size e f) : cap ≤ maxLen := by obtain ⟨_, _, _, h, _⟩ := h; exact h
theorem Row.cell (h : Row w g cap n size e f) {i j : Nat} (hi : i < n) (hj : j < size) : w.cell? ⟨g, i * size + j, none⟩ = some (f i j) := by
  obtain ⟨cur, h, _, _, _, hc⟩ := h
  unfold World.cell?; rw [h]; exact hc i hi j hj
theorem Row.free (h : Row w g cap n size e f) (o : Nat) : w.frozen? ⟨g, o, none⟩ = false := by
  obtain ⟨cur, h, _⟩ := h
  unfold World.frozen?; rw [h]; simp
theorem Row.congr (h : Row w g cap n size e f) (hf : ∀ i, i < n → ∀ j, j < size → f i j = f' i j) : Row w g cap n size e f' := by
  obtain ⟨cur, h, a, b, c, hc⟩ := h
  exact ⟨cur, h, a, b, c, fun i hi j hj => (hc i hi j hj).trans (by rw [hf i hi j hj])⟩
theorem Row.less (h : Row w g cap n size e f) {m : Nat} (hm : m ≤ n) : Row w g cap m size e f := by
  obtain ⟨cur, h, a, b, c, hc⟩ := h
  exact ⟨cur, h, Nat.le_trans hm a, b, c, fun i hi j hj => hc i (by omega) j hj⟩
theorem row_ix {size i j i' j' : Nat} (hj : j < size) (hj' : j' < size) (h : i * size + j = i' * size + j') : i = i' ∧ j = j' := by
  have h1 : (i * size + j) / size = i := by rw [Nat.mul_comm, Nat.mul_add_div (by omega), Nat.div_eq_of_lt hj]; omega
  have h2 : (i' * size + j') / size = i' := by rw [Nat.mul_comm, Nat.mul_add_div (by omega), Nat.div_eq_of_lt hj']; omega
  have : i = i' := by rw [← h1, ← h2, h]
  subst this; exact ⟨rfl, by omega⟩
theorem Row.set (h : Row w g cap n size e f) {i j : Nat} (hi : i < n) (hj : j < size) (v : Value) :
    Row (w.setCell ⟨g, i * size + j, none⟩ v) g cap n size e (fun i' j' => if i' = i ∧ j' = j then v else f i' j') := by
  obtain ⟨cur, h, a, b, c, hc⟩ := h
  have hlt : i * size + j < cur.size := by
    rcases Array.getElem?_eq_some_iff.1 (hc i hi j hj) with ⟨q, _⟩; exact q
  refine ⟨cur.setIfInBounds (i * size + j) v, ?_, a, b, by simpa using c, fun i' hi' j' hj' => ?_⟩
  · show (w.heap.modify g _)[g]? = _
    rw [Array.getElem?_modify, if_pos rfl, h]; rfl
  · rw [Array.getElem?_setIfInBounds]
    by_cases hh : i' = i ∧ j' = j
    · obtain ⟨rfl, rfl⟩ := hh
      simp [hlt]
    · have : ¬ i * size + j = i' * size + j' := fun e => hh (by have := row_ix hj hj' e; exact ⟨this.1.symm, this.2.symm⟩)
      rw [if_neg this, hc i' hi' j' hj']
      show _ = some (if i' = i ∧ j' = j then v else f i' j')
      rw [if_neg hh]
theorem Row.alloc (h : Row w g cap n size e f) (o : Obj) : Row (w.alloc o) g cap n size e f := h.of ((Below.refl _ _).alloc (Nat.le_refl _) o)

/-- the rows as one list of cells -/
def flat (size : Nat) (f : Nat → Nat → Value) : Nat → List Value
  | 0 => []
  | n + 1 => flat size f n ++ (List.range size).map (f n)
theorem flat_len (size : Nat) (f : Nat → Nat → Value) (n : Nat) : (flat size f n).length = n * size := by
  induction n with
  | zero => simp [flat]
  | succ n ih => rw [flat, List.length_append, ih, Nat.succ_mul]; simp
theorem flat_get (size : Nat) (f : Nat → Nat → Value) {n i j : Nat} (hi : i < n) (hj : j < size) : (flat size f n)[i * size + j]? = some (f i j) := by
  induction n with
  | zero => omega
  | succ n ih =>
    rw [flat]
    by_cases h : i < n
    · have : i * size + j < n * size := by
        calc i * size + j < i * size + size := by omega
          _ = (i + 1) * size := by rw [Nat.succ_mul]
          _ ≤ n * size := Nat.mul_le_mul_right _ (by omega)
      rw [List.getElem?_append_left (by rw [flat_len]; exact this)]
      exact ih h
    · obtain rfl : i = n := by omega
      rw [List.getElem?_append_right (by rw [flat_len]; omega), flat_len, show i * size + j - i * size = j by omega]
      simp [hj]
theorem flat_congr {size : Nat} {f f' : Nat → Nat → Value} {n : Nat} (h : ∀ i, i < n → ∀ j, j < size → f i j = f' i j) : flat size f n = flat size f' n := by
  induction n with
  | zero => rfl
  | succ n ih =>
    rw [flat, flat, ih fun i hi => h i (by omega)]
    congr 1
    exact List.map_congr_left fun j hj => h n (by omega) j (List.mem_range.1 hj)
theorem Row.ofOwns {base : Nat} {v : Value} (h : w.ownsRow base e size v n (flat size f n)) (hn : 0 < n) : ∃ g cap, v = .slice (some ⟨g, 0, none⟩) n cap ∧ base ≤ g ∧ Row w g cap n size e f := by
  rcases h.2 with ⟨_, rfl⟩ | ⟨g, cap, cur, rfl, hb, hg, h1, h2, h3, h4⟩
  · omega
  refine ⟨g, cap, rfl, hb, cur, hg, h1, h2, h3, fun i hi j hj => ?_⟩
  have := flat_get size f hi hj
  rw [← h4, List.getElem?_take] at this
  split at this
  · simpa using this
  · cases this
end
/-- the cells and the numbers of a row of fractions -/
structure RF where
  b : Nat → Bool
  a : Nat → Option Addr
  q : Nat → Nat
  c : Nat → Nat
  N : Nat → Int
  b2 : Nat → Bool
  a2 : Nat → Option Addr
  q2 : Nat → Nat
  c2 : Nat → Nat
  D : Nat → Int
def RF.cell (F : RF) (i : Nat) : Nat → Value
  | 0 => .bool (F.b i)
  | 1 => .slice (F.a i) (F.q i) (F.c i)
  | 2 => .bool (F.b2 i)
  | _ => .slice (F.a2 i) (F.q2 i) (F.c2 i)
/-- a slice of fractions -/
structure RS (w : World) (g cap n : Nat) (F : RF) : Prop where
  row : Row w g cap n 4 60 F.cell
  num : ∀ i, i < n → Big w (.agg #[.bool (F.b i), .slice (F.a i) (F.q i) (F.c i)]) (F.N i) 18
  den : ∀ i, i < n → Big w (.agg #[.bool (F.b2 i), .slice (F.a2 i) (F.q2 i) (F.c2 i)]) (F.D i) 18
theorem RS.of {w w' : World} {g cap n : Nat} {F : RF} (h : RS w g cap n F) (hb : Below w.heap.size w w') : RS w' g cap n F :=
  ⟨h.row.of hb, fun i hi => (h.num i hi).of hb, fun i hi => (h.den i hi).of hb⟩
theorem RS.lt {w : World} {g cap n : Nat} {F : RF} (h : RS w g cap n F) : g < w.heap.size := h.row.lt
theorem RS.c0 {w : World} {g cap n : Nat} {F : RF} (h : RS w g cap n F) {i : Nat} (hi : i < n) : w.cell? ⟨g, i * 4, none⟩ = some (.bool (F.b i)) := h.row.cell hi (show 0 < 4 by decide)
theorem RS.c1 {w : World} {g cap n : Nat} {F : RF} (h : RS w g cap n F) {i : Nat} (hi : i < n) : w.cell? ⟨g, i * 4 + 1, none⟩ = some (.slice (F.a i) (F.q i) (F.c i)) := h.row.cell hi (show 1 < 4 by decide)
theorem RS.c2 {w : World} {g cap n : Nat} {F : RF} (h : RS w g cap n F) {i : Nat} (hi : i < n) : w.cell? ⟨g, i * 4 + 2, none⟩ = some (.bool (F.b2 i)) := h.row.cell hi (show 2 < 4 by decide)
theorem RS.c3 {w : World} {g cap n : Nat} {F : RF} (h : RS w g cap n F) {i : Nat} (hi : i < n) : w.cell? ⟨g, i * 4 + 3, none⟩ = some (.slice (F.a2 i) (F.q2 i) (F.c2 i)) := h.row.cell hi (show 3 < 4 by decide)
theorem rs_setL {w : World} {g cap n : Nat} {F : RF} (h : RS w g cap n F) {b : Nat} {c : Array Value} {t : TypeId} (k : Blk w b c t) (ht : ¬ t = 60) {x : Value} (hd : w.cell? ⟨b, 0, none⟩ = some x) (hx : ∀ i, x ≠ .int .i64 i) (o : Nat) (l : List Value) : RS (setL w b o l) g cap n F := by
  have hne : g ≠ b := by
    intro e
    obtain ⟨cur, h1, _⟩ := h.row
    subst e
    have k1 : w.heap[g]? = _ := k
    rw [h1] at k1
    have := Option.some.inj k1
    simp at this
    exact ht this.2.symm
  exact ⟨h.row.same (heap_setL _ _ _ _ _ hne), fun i hi => big_setL (h.num i hi) hd hx o l, fun i hi => big_setL (h.den i hi) hd hx o l⟩
/-- the fractions of a row -/
def RF.list (F : RF) (n : Nat) : List (Int × Int) := (List.range n).map fun i => (F.N i, F.D i)
theorem RF.list_len (F : RF) (n : Nat) : (F.list n).length = n := by unfold RF.list; simp
theorem RF.list_get (F : RF) {n i : Nat} (h : i < n) : (F.list n)[i]? = some (F.N i, F.D i) := by unfold RF.list; simp [h]
end Go.Proofs.Ytlcbomjdbdgbmaa

namespace Go.Proofs.Ytlcbomjdbdgbmaa
open Go.RowKit

set_option maxRecDepth 100000 in
set_option maxHeartbeats 4000000 in

theorem crtimes_is (x : Int) (y : Int)  (R0 : Int) (hR0 : mulv x y = R0) (_ix : InI x) (_iy : InI y)  (w : World)  :
    Calls Try.prog 106 #[.agg #[.int .u64 (wd0 x), .int .u64 (wd1 x), .int .u64 (wd2 x), .int .u64 (wd3 x)], .agg #[.int .u64 (wd0 y), .int .u64 (wd1 y), .int .u64 (wd2 y), .int .u64 (wd3 y)]] w fun e w' => e = .returned (.agg #[.int .u64 (wd0 R0), .int .u64 (wd1 R0), .int .u64 (wd2 R0), .int .u64 (wd3 R0)]) ∧ Below w.heap.size w w' := by

  have HR0 := Lib.hid hR0
  clear hR0
  go_enter Try.func106, Try.ntmps106
  go_wp2_with fail
  first | refine calls_w ?_ | refine name_world ?_ | refine list_world ?_ | refine post_world ?_
  intro V1 hV1
  have hn : Below w.heap.size w V1 := by rw [hV1]; exact below_a3 _ _ _ _
  have nhb0 := hn
  have k1 : Blk V1 w.heap.size #[.int .u64 (wd0 x), .int .u64 (wd1 x), .int .u64 (wd2 x), .int .u64 (wd3 x)] 35 := by rw [hV1]; exact (((Blk.new _ _ _).alloc _).alloc _)
  have k2 : Blk V1 (w.heap.size + 1) #[.int .u64 (wd0 y), .int .u64 (wd1 y), .int .u64 (wd2 y), .int .u64 (wd3 y)] 35 := by rw [hV1]; exact ((Blk.new1 _ _ _ _).alloc _)
  have k3 : Blk V1 (w.heap.size + 1 + 1) #[.int .u64 0, .int .u64 0, .int .u64 0, .int .u64 0] 35 := by rw [hV1]; exact (Blk.new2 _ _ _ _ _)
  clear hV1
  have hb0 := nhb0
  clear nhb0
  obtain ⟨r1, hr1⟩ : ∃ o_o : Int, mulv x y = o_o := ⟨_, rfl⟩
  have Hr1 := Lib.hid hr1
  clear hr1
  obtain ⟨z2, hz2⟩ : ∃ o_o : Bool, okI (x * y) = o_o := ⟨_, rfl⟩
  have Hz2 := Lib.hid hz2
  clear hz2
  refine (Mul_v x y r1 z2 Hr1.out Hz2.out _ix _iy _).mono ?_
  rintro e U2 ⟨rfl, hn⟩
  clear k1 k2
  replace k3 := k3.of hn
  replace hb0 := hb0.trans (hn.mono hb0.size)
  clear hn
  have c3_0 : U2.cell? ⟨(w.heap.size + 1 + 1), 0, none⟩ = some (.int .u64 0) := k3.cell 0
  have c3_1 : U2.cell? ⟨(w.heap.size + 1 + 1), 1, none⟩ = some (.int .u64 0) := k3.cell 1
  have c3_2 : U2.cell? ⟨(w.heap.size + 1 + 1), 2, none⟩ = some (.int .u64 0) := k3.cell 2
  have c3_3 : U2.cell? ⟨(w.heap.size + 1 + 1), 3, none⟩ = some (.int .u64 0) := k3.cell 3
  have f3_0 := k3.free 0
  have f3_1 := k3.free 1
  have f3_2 := k3.free 2
  have f3_3 := k3.free 3
  have l3 := k3.lt
  have l3_0 : w.heap.size < U2.heap.size := by have := k3.lt; omega
  have l3_1 : w.heap.size + 1 < U2.heap.size := by have := k3.lt; omega
  have e0 : r1 = R0 := by rw [← HR0.out]; (try rw [Hr1.out]); (try rw [Hz2.out]); all_goals first | rfl | simp
  subst e0
  go_wp2
  clear c3_0 c3_1 c3_2 c3_3 f3_0 f3_1 f3_2 f3_3 l3 l3_0 l3_1
  first | refine post_world ?_
  intro V3 hV3
  have D1 := Lib.hid k3.lt
  have D2 := Lib.hid hb0.size
  have nk3 : Blk V3 (w.heap.size + 1 + 1) #[.int .u64 (wd0 r1), .int .u64 (wd1 r1), .int .u64 (wd2 r1), .int .u64 (wd3 r1)] 35 := by rw [hV3]; exact ((blk_full _ [.int .u64 (wd0 r1), .int .u64 (wd1 r1), .int .u64 (wd2 r1), .int .u64 (wd3 r1)] k3 rfl).alloc _)
  have nhb0 : Below w.heap.size w V3 := by rw [hV3]; exact (blw_al (blw_setL hb0 (by omega) 0 [.int .u64 (wd0 r1), .int .u64 (wd1 r1), .int .u64 (wd2 r1), .int .u64 (wd3 r1)]) _)
  clear k3
  clear hb0
  clear hV3
  have k3 := nk3
  clear nk3
  have hb0 := nhb0
  clear nhb0
  have g3_0 : V3.cell? ⟨(w.heap.size + 1 + 1), 0, none⟩ = some (.int .u64 (wd0 r1)) := k3.cell 0
  have g3_1 : V3.cell? ⟨(w.heap.size + 1 + 1), 1, none⟩ = some (.int .u64 (wd1 r1)) := k3.cell 1
  have g3_2 : V3.cell? ⟨(w.heap.size + 1 + 1), 2, none⟩ = some (.int .u64 (wd2 r1)) := k3.cell 2
  have g3_3 : V3.cell? ⟨(w.heap.size + 1 + 1), 3, none⟩ = some (.int .u64 (wd3 r1)) := k3.cell 3
  clear k3
  simp [bodyPost, results, Try.results106, go_sem, g3_0, g3_1, g3_2, g3_3]
  first | exact hb0 | exact ⟨rfl, hb0⟩

set_option maxRecDepth 100000 in
set_option maxHeartbeats 4000000 in

theorem crless_is (x : Int) (y : Int)  (R0 : Int) (hR0 : subv x y = R0) (_ix : InI x) (_iy : InI y)  (w : World)  :
    Calls Try.prog 108 #[.agg #[.int .u64 (wd0 x), .int .u64 (wd1 x), .int .u64 (wd2 x), .int .u64 (wd3 x)], .agg #[.int .u64 (wd0 y), .int .u64 (wd1 y), .int .u64 (wd2 y), .int .u64 (wd3 y)]] w fun e w' => e = .returned (.agg #[.int .u64 (wd0 R0), .int .u64 (wd1 R0), .int .u64 (wd2 R0), .int .u64 (wd3 R0)]) ∧ Below w.heap.size w w' := by

  have HR0 := Lib.hid hR0
  clear hR0
  go_enter Try.func108, Try.ntmps108
  go_wp2_with fail
  first | refine calls_w ?_ | refine name_world ?_ | refine list_world ?_ | refine post_world ?_
  intro V1 hV1
  have hn : Below w.heap.size w V1 := by rw [hV1]; exact below_a3 _ _ _ _
  have nhb0 := hn
  have k1 : Blk V1 w.heap.size #[.int .u64 (wd0 x), .int .u64 (wd1 x), .int .u64 (wd2 x), .int .u64 (wd3 x)] 35 := by rw [hV1]; exact (((Blk.new _ _ _).alloc _).alloc _)
  have k2 : Blk V1 (w.heap.size + 1) #[.int .u64 (wd0 y), .int .u64 (wd1 y), .int .u64 (wd2 y), .int .u64 (wd3 y)] 35 := by rw [hV1]; exact ((Blk.new1 _ _ _ _).alloc _)
  have k3 : Blk V1 (w.heap.size + 1 + 1) #[.int .u64 0, .int .u64 0, .int .u64 0, .int .u64 0] 35 := by rw [hV1]; exact (Blk.new2 _ _ _ _ _)
  clear hV1
  have hb0 := nhb0
  clear nhb0
  obtain ⟨r1, hr1⟩ : ∃ o_o : Int, subv x y = o_o := ⟨_, rfl⟩
  have Hr1 := Lib.hid hr1
  clear hr1
  obtain ⟨z2, hz2⟩ : ∃ o_o : Bool, okI (x - y) = o_o := ⟨_, rfl⟩
  have Hz2 := Lib.hid hz2
  clear hz2
  refine (Sub_v x y r1 z2 Hr1.out Hz2.out _ix _iy _).mono ?_
  rintro e U2 ⟨rfl, hn⟩
  clear k1 k2
  replace k3 := k3.of hn
  replace hb0 := hb0.trans (hn.mono hb0.size)
  clear hn
  have c3_0 : U2.cell? ⟨(w.heap.size + 1 + 1), 0, none⟩ = some (.int .u64 0) := k3.cell 0
  have c3_1 : U2.cell? ⟨(w.heap.size + 1 + 1), 1, none⟩ = some (.int .u64 0) := k3.cell 1
  have c3_2 : U2.cell? ⟨(w.heap.size + 1 + 1), 2, none⟩ = some (.int .u64 0) := k3.cell 2
  have c3_3 : U2.cell? ⟨(w.heap.size + 1 + 1), 3, none⟩ = some (.int .u64 0) := k3.cell 3
  have f3_0 := k3.free 0
  have f3_1 := k3.free 1
  have f3_2 := k3.free 2
  have f3_3 := k3.free 3
  have l3 := k3.lt
  have l3_0 : w.heap.size < U2.heap.size := by have := k3.lt; omega
  have l3_1 : w.heap.size + 1 < U2.heap.size := by have := k3.lt; omega
  have e0 : r1 = R0 := by rw [← HR0.out]; (try rw [Hr1.out]); (try rw [Hz2.out]); all_goals first | rfl | simp
  subst e0
  go_wp2
  clear c3_0 c3_1 c3_2 c3_3 f3_0 f3_1 f3_2 f3_3 l3 l3_0 l3_1
  first | refine post_world ?_
  intro V3 hV3
  have D1 := Lib.hid k3.lt
  have D2 := Lib.hid hb0.size
  have nk3 : Blk V3 (w.heap.size + 1 + 1) #[.int .u64 (wd0 r1), .int .u64 (wd1 r1), .int .u64 (wd2 r1), .int .u64 (wd3 r1)] 35 := by rw [hV3]; exact ((blk_full _ [.int .u64 (wd0 r1), .int .u64 (wd1 r1), .int .u64 (wd2 r1), .int .u64 (wd3 r1)] k3 rfl).alloc _)
  have nhb0 : Below w.heap.size w V3 := by rw [hV3]; exact (blw_al (blw_setL hb0 (by omega) 0 [.int .u64 (wd0 r1), .int .u64 (wd1 r1), .int .u64 (wd2 r1), .int .u64 (wd3 r1)]) _)
  clear k3
  clear hb0
  clear hV3
  have k3 := nk3
  clear nk3
  have hb0 := nhb0
  clear nhb0
  have g3_0 : V3.cell? ⟨(w.heap.size + 1 + 1), 0, none⟩ = some (.int .u64 (wd0 r1)) := k3.cell 0
  have g3_1 : V3.cell? ⟨(w.heap.size + 1 + 1), 1, none⟩ = some (.int .u64 (wd1 r1)) := k3.cell 1
  have g3_2 : V3.cell? ⟨(w.heap.size + 1 + 1), 2, none⟩ = some (.int .u64 (wd2 r1)) := k3.cell 2
  have g3_3 : V3.cell? ⟨(w.heap.size + 1 + 1), 3, none⟩ = some (.int .u64 (wd3 r1)) := k3.cell 3
  clear k3
  simp [bodyPost, results, Try.results108, go_sem, g3_0, g3_1, g3_2, g3_3]
  first | exact hb0 | exact ⟨rfl, hb0⟩

def sgR (ax : Int) (ay : Int) (bx : Int) (b_y : Int) : Bool := (bif (rp ax ay) then (rp bx b_y) else false)

set_option maxRecDepth 100000 in
set_option maxHeartbeats 4000000 in

theorem SegRight_is (ax : Int) (ay : Int) (bx : Int) (b_y : Int)  (R0 : Bool) (hR0 : sgR ax ay bx b_y = R0) (_iax : In64 ax) (_iay : In64 ay) (_ibx : In64 bx) (_ib_y : In64 b_y)  (w : World)  :
    Calls Try.prog 53 #[.agg #[.int .i64 ax, .int .i64 ay, .int .i64 bx, .int .i64 b_y]] w fun e w' => e = .returned (.bool R0) ∧ Below w.heap.size w w' := by

  have HR0 := Lib.hid hR0
  clear hR0
  go_enter Try.func53, Try.ntmps53
  go_wp2_with fail
  first | refine calls_w ?_ | refine name_world ?_ | refine list_world ?_ | refine post_world ?_
  intro V1 hV1
  have hn : Below w.heap.size w V1 := by rw [hV1]; exact below_a1 _ _
  have nhb0 := hn
  have k1 : Blk V1 w.heap.size #[.int .i64 ax, .int .i64 ay, .int .i64 bx, .int .i64 b_y] 50 := by rw [hV1]; exact (Blk.new _ _ _)
  clear hV1
  have hb0 := nhb0
  clear nhb0
  obtain ⟨z1, hz1⟩ : ∃ o_o : Bool, rp ax ay = o_o := ⟨_, rfl⟩
  have Hz1 := Lib.hid hz1
  clear hz1
  refine (PtRight_v ax ay z1 Hz1.out _).mono ?_
  rintro e U2 ⟨rfl, hn⟩
  replace k1 := k1.of hn
  replace hb0 := hb0.trans (hn.mono hb0.size)
  clear hn
  cases z1
  · have e0 : false = R0 := by rw [← HR0.out]; unfold sgR; (try rw [Hz1.out]); all_goals first | rfl | simp
    subst e0
    go_wp2
    first | go_ret | go_ret2
    exact ⟨by first | rfl | simp, hb0⟩
  · have c1_2 : U2.cell? ⟨w.heap.size, 2, none⟩ = some (.int .i64 bx) := k1.cell 2
    have c1_3 : U2.cell? ⟨w.heap.size, 3, none⟩ = some (.int .i64 b_y) := k1.cell 3
    have l1 := k1.lt
    go_wp2_with fail
    clear c1_2 c1_3 l1
    obtain ⟨z2, hz2⟩ : ∃ o_o : Bool, rp bx b_y = o_o := ⟨_, rfl⟩
    have Hz2 := Lib.hid hz2
    clear hz2
    refine (PtRight_v bx b_y z2 Hz2.out _).mono ?_
    rintro e U3 ⟨rfl, hn⟩
    clear k1
    replace hb0 := hb0.trans (hn.mono hb0.size)
    clear hn
    have e0 : z2 = R0 := by rw [← HR0.out]; unfold sgR; (try rw [Hz1.out]); (try rw [Hz2.out]); all_goals first | rfl | simp
    subst e0
    go_wp2
    first | go_ret | go_ret2
    exact ⟨by first | rfl | simp, hb0⟩

end Go.Proofs.Ytlcbomjdbdgbmaa

