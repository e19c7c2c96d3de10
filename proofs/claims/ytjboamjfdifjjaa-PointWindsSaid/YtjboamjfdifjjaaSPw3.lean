/- The statement PointWindsSaid: for every input the law returns true, and its arguments read as before. Conditions: none. -/
import Derived.Test.YtjboamjfdifjjaaSPw2
import Derived.KernelRfl
import Derived.StillTail
import Derived.OrdersHeld
import Derived.Deep.Quiet
import Derived.Below
import Derived.WalkKit
import Derived.Test.YtjboamjfdifjjaaProg
import Derived.WalkSpells
import Derived.StillTactics
import Derived.Laws.Pointers
import Derived.Deep.RegionHeld3
import Derived.RowKit3
import Derived.Deep.QuietTactic
import Derived.BigQuiet
import Derived.BigRegion
import Derived.Lib.Hide
import Derived.WalkSmall
import Derived.Laws.BitsAllLaws
import Derived.IntWalk
import Derived.Deep.OwnRows
import Derived.Deep.LoopGhost
import Derived.Shelf.Bits.Mul64
import Derived.Test.YtjboamjfdifjjaaRows
import Derived.ProofKit
import Derived.OpenShut
import Derived.ShutString
import Derived.ChangeOld
import Derived.Lib.SmallJoins
import Derived.Laws.IdiomArrays
import Derived.Laws.AppendOwn
import Derived.Deep.SlicePairs
namespace Go.Proofs.Ytjboamjfdifjjaa
open Go.RowKit

theorem Pts.atS {w wr : World} {a : Addr} {n cap : Nat} {X Y : Nat → Int} (h : Pts w (some a) n cap X Y) (hb : Below w.heap.size w wr) {i : Nat} (hi : i < n) :
    wr.cell? (a.add (i * 2)) = some (.int .i64 (X i)) ∧ wr.cell? { block := (a.add (i * 2)).block, off := (a.add (i * 2)).off + 1 } = some (.int .i64 (Y i)) := by
  obtain ⟨a', ea, h1, h2⟩ := h.at hb hi
  obtain rfl : a = a' := by injection ea
  exact ⟨h1, h2⟩
theorem pRt_is (x y : Int) (r : Bool) (h : rp x y = r) (w : World) : Calls Try.prog 7 #[pI x y] w fun e w' => e = .returned (.bool r) ∧ Below w.heap.size w w' := h ▸ PtRight_any x y w
theorem allC_rp {n : Nat} {X Y : Nat → Int} (h : allC n X Y = true) {i : Nat} (hi : i < n) : rp (X i) (Y i) = true := by
  unfold allC at h
  exact List.all_eq_true.1 h i (List.mem_range.2 hi)
/-- does p lie on one of the first k edges? -/
def onK (n : Nat) (px py : Int) (X Y : Nat → Int) : Nat → Bool
  | 0 => false
  | k + 1 => onK n px py X Y k || onB (X k) (Y k) (X (nx n k)) (Y (nx n k)) px py
theorem onK_true {n : Nat} {px py : Int} {X Y : Nat → Int} {k : Nat} (h : onB (X k) (Y k) (X (nx n k)) (Y (nx n k)) px py = true) : ∀ m, k < m → onK n px py X Y m = true
  | 0, hm => by omega
  | m + 1, hm => by
    show (onK n px py X Y m || onB (X m) (Y m) (X (nx n m)) (Y (nx n m)) px py) = true
    by_cases e : k = m
    · subst e; rw [h, Bool.or_true]
    · rw [onK_true h m (by omega)]; rfl
theorem onK_false {n : Nat} {px py : Int} {X Y : Nat → Int} : ∀ m, onK n px py X Y m = false → ∀ i, i < m → onB (X i) (Y i) (X (nx n i)) (Y (nx n i)) px py = false
  | 0, _, i, hi => by omega
  | m + 1, h, i, hi => by
    have h2 : (onK n px py X Y m || onB (X m) (Y m) (X (nx n m)) (Y (nx n m)) px py) = false := h
    rw [Bool.or_eq_false_iff] at h2
    by_cases e : i = m
    · subst e; exact h2.2
    · exact onK_false m h2.1 i (by omega)
set_option maxRecDepth 100000 in
set_option maxHeartbeats 2000000 in
theorem Winds_no (ao : Option Addr) (n cap : Nat) (X Y : Nat → Int) (px py : Int) (w : World) (h : Pts w ao n cap X Y) (hn : n ≤ 60) (g r : Bool) (hg : allC n X Y = g) (hr : rp px py = r) (hx : (g && r) = false) :
    Calls Try.prog 18 #[.slice ao n cap, pI px py] w fun e w' => e = .returned (.tuple #[.int .i64 0, .bool false, .bool false]) ∧ Below w.heap.size w w' := by
  have hcl := h.capl
  have hcb := h.capb
  have HO := Lib.hid h
  have HG := Lib.hid hg
  have HR := Lib.hid hr
  clear h hg hr
  have hq : ¬ 4096 < n := by omega
  cases g
  · go_enter Try.func18, Try.ntmps18
    go_wp2_with fail
    refine calls_w ?_
    intro V hV
    have hbV : Below w.heap.size w V := by rw [hV]; exact below_a1 _ _
    clear hV
    refine (ptright_any ao n cap X Y V (HO.out.of hbV)).mono ?_
    rintro e W2 ⟨rfl, hn2⟩
    rw [HG.out]
    have hb2 := hbV.trans (hn2.mono hbV.size)
    clear hn2 hbV
    go_wp2
    simp [bodyPost, results, Try.results18, go_sem]
    exact hb2
  · cases r
    · go_enter Try.func18, Try.ntmps18
      go_wp2_with fail
      refine calls_w ?_
      intro V hV
      have kf : PVar V w.heap.size px py := by rw [hV]; exact Blk.new _ _ _
      have hbV : Below w.heap.size w V := by rw [hV]; exact below_a1 _ _
      clear hV
      refine (ptright_any ao n cap X Y V (HO.out.of hbV)).mono ?_
      rintro e W2 ⟨rfl, hn2⟩
      rw [HG.out]
      have KF := Lib.hid (kf.of hn2)
      have hb2 := hbV.trans (hn2.mono hbV.size)
      clear hn2 hbV kf
      have cf := PVar.c KF.out
      go_wp2_with fail
      refine (pRt_is px py false HR.out _).mono ?_
      rintro e W3 ⟨rfl, hn2⟩
      have hb3 := hb2.trans (hn2.mono hb2.size)
      clear hn2 hb2 cf KF
      go_wp2
      simp [bodyPost, results, Try.results18, go_sem]
      exact hb3
    · cases hx
set_option maxRecDepth 100000 in
set_option maxHeartbeats 4000000 in
theorem Winds_go (ao : Option Addr) (n cap : Nat) (X Y : Nat → Int) (px py : Int) (w : World) (h : Pts w ao n cap X Y) (hn : n ≤ 60) (hg : allC n X Y = true) (hr : rp px py = true) (o : Bool) (ho : onK n px py X Y n = o) :
    Calls Try.prog 18 #[.slice ao n cap, pI px py] w fun e w' => e = .returned (.tuple #[.int .i64 (bif o then 0 else sumN (wcr n px py X Y) n), .bool o, .bool true]) ∧ Below w.heap.size w w' := by
  have hcl := h.capl
  have hcb := h.capb
  have HO := Lib.hid h
  have HG := Lib.hid hg
  have HR := Lib.hid hr
  have HN := Lib.hid ho
  clear h hg hr ho
  have hq : ¬ 4096 < n := by omega
  go_enter Try.func18, Try.ntmps18
  go_wp2_with fail
  refine calls_w ?_
  intro V hV
  have kf : PVar V w.heap.size px py := by rw [hV]; exact Blk.new _ _ _
  have hbV : Below w.heap.size w V := by rw [hV]; exact below_a1 _ _
  clear hV
  refine (ptright_any ao n cap X Y V (HO.out.of hbV)).mono ?_
  rintro e W2 ⟨rfl, hn2⟩
  rw [HG.out]
  have KF := Lib.hid (kf.of hn2)
  have hb2 := hbV.trans (hn2.mono hbV.size)
  clear hn2 hbV kf
  have cf := PVar.c KF.out
  go_wp2_with fail
  refine (pRt_is px py true HR.out _).mono ?_
  rintro e W3 ⟨rfl, hn2⟩
  have hb3 := hb2.trans (hn2.mono hb2.size)
  have KF3 := Lib.hid (KF.out.of hn2)
  clear hn2 hb2 cf KF
  obtain ⟨fb, efb⟩ : ∃ b, w.heap.size = b := ⟨_, rfl⟩
  have ofb : w.heap.size ≤ fb := by omega
  rw [efb] at KF3 ⊢
  rw [← efb]
  go_wp2_with fail
  go_loopg [4, 25] n (fun gk s4 s25 wr => ∃ k : Nat, s25 = .int .i64 k ∧ s4 = .int .i64 (sumN (wcr n px py X Y) k) ∧ k ≤ n ∧ n - k ≤ gk ∧ Hid (onK n px py X Y k = false) ∧ Hid (PVar wr fb px py) ∧ Below w.heap.size w wr)
  case atStart => exact ⟨0, rfl, rfl, Nat.zero_le _, by omega, Lib.hid rfl, KF3, hb3⟩
  case round =>
    clear KF3 hb3
    obtain ⟨k, rfl, rfl, hk, hg, HK, KF, hb⟩ := hrel
    by_cases hlt : k < n
    · have hnn : nx n k < n := nx_lt hlt
      obtain ⟨a, rfl, p0, p1⟩ := HO.out.at hb hlt
      obtain ⟨ax, hax⟩ : ∃ x, X k = x := ⟨_, rfl⟩
      obtain ⟨ay, hay⟩ : ∃ x, Y k = x := ⟨_, rfl⟩
      obtain ⟨m, hm⟩ : ∃ m, nx n k = m := ⟨_, rfl⟩
      rw [hm] at hnn
      have qq := HO.out.atS hb hnn
      obtain ⟨bx, hbx⟩ : ∃ x, X m = x := ⟨_, rfl⟩
      obtain ⟨b_y, hby⟩ : ∃ x, Y m = x := ⟨_, rfl⟩
      rw [hax] at p0
      rw [hay] at p1
      rw [hbx, hby] at qq
      obtain ⟨q0, q1⟩ := qq
      have hmod : Int.tmod ((k : Int) + 1) (n : Int) = (m : Int) := by
        rw [Int.tmod_eq_emod_of_nonneg (by omega), ← hm]; unfold nx; norm_cast
      have hn0 : ¬ n = 0 := by omega
      have HX := Lib.hid (And.intro hm (And.intro hax (And.intro hay (And.intro hbx hby))))
      obtain ⟨o1, ho1⟩ : ∃ o, onB ax ay bx b_y px py = o := ⟨_, rfl⟩
      obtain ⟨v, hv⟩ : ∃ v, way ax ay bx b_y px py = v := ⟨_, rfl⟩
      have HOB := Lib.hid ho1
      have HV := Lib.hid hv
      have hv3 : v = -1 ∨ v = 0 ∨ v = 1 := by rw [← hv]; exact way_cases _ _ _ _ _ _
      have hwc : wcr n px py X Y k = crs1 (ay - py) (b_y - py) v := by unfold wcr; rw [hm, hax, hay, hbx, hby, hv]
      have bd : -(k : Int) ≤ sumN (wcr n px py X Y) k ∧ sumN (wcr n px py X Y) k ≤ k := by
        have := sumN_bd (f := wcr n px py X Y) (B := 1) k fun i _ => wcr_bd n px py X Y i
        omega
      have hs1 : sumN (wcr n px py X Y) (k + 1) = sumN (wcr n px py X Y) k + crs1 (ay - py) (b_y - py) v := by rw [← hwc]; rfl
      have HS1 := Lib.hid hs1
      obtain ⟨s, hs⟩ : ∃ s, sumN (wcr n px py X Y) k = s := ⟨_, rfl⟩
      rw [hs] at bd HS1 ⊢
      clear hm hax hay hbx hby ho1 hv hwc hs hs1
      have r0 : ∀ o, (wr.alloc o).cell? (a.add (m * 2)) = some (.int .i64 bx) := fun o => ((below_a1 wr o).cell (World.block_lt_of_cell? _ _ q0)).trans q0
      have r1 : ∀ o, (wr.alloc o).cell? { block := (a.add (m * 2)).block, off := (a.add (m * 2)).off + 1 } = some (.int .i64 b_y) := fun o => ((below_a1 wr o).cell (World.block_lt_of_cell? _ _ q1)).trans q1
      clear q0 q1
      have cf := PVar.c KF.out
      have lf := KF.out.lt
      go_wp2_with fail
      refine calls_w ?_
      intro W3 hW3
      have ka : PVar W3 wr.heap.size ax ay := by rw [hW3]; exact (Blk.new wr _ _).alloc _
      have kb : PVar W3 (wr.heap.size + 1) bx b_y := by rw [hW3]; exact Blk.new1 wr _ _ _
      have hb4 : Below wr.heap.size wr W3 := by rw [hW3]; exact below_a2 _ _ _
      clear hW3 p0 p1 r0 r1 hmod cf lf
      have hb5 := hb.trans (hb4.mono hb.size)
      have KF5 := Lib.hid (KF.out.of hb4)
      clear KF hb4 hb
      refine (On_is ax ay bx b_y px py o1 HOB.out _).mono ?_
      rintro e W5 ⟨rfl, hn5⟩
      have KA := Lib.hid (ka.of hn5)
      have KB := Lib.hid (kb.of hn5)
      have KF6 := Lib.hid (KF5.out.of hn5)
      have hb6 := hb5.trans (hn5.mono hb5.size)
      clear hn5 ka kb hb5 KF5
      cases o1
      · have HK1 : Hid (onK n px py X Y (k + 1) = false) := by
          refine Lib.hid ?_
          show (onK n px py X Y k || onB (X k) (Y k) (X (nx n k)) (Y (nx n k)) px py) = false
          rw [HK.out, HX.out.1, HX.out.2.1, HX.out.2.2.1, HX.out.2.2.2.1, HX.out.2.2.2.2, HOB.out]; rfl
        clear HK
        have ca := PVar.c KA.out
        have cb := PVar.c KB.out
        have cf := PVar.c KF6.out
        by_cases h1 : ay ≤ py
        · by_cases h2 : py < b_y
          · go_wp2_with fail
            refine (Turn_is ax ay bx b_y px py v HV.out _).mono ?_
            rintro e W6 ⟨rfl, hn6⟩
            have KF7 := Lib.hid (KF6.out.of hn6)
            have KA7 := Lib.hid (KA.out.of hn6)
            have KB7 := Lib.hid (KB.out.of hn6)
            have hb7 := hb6.trans (hn6.mono hb6.size)
            clear hn6 hb6 ca cb cf KF6 KA KB
            have ca := PVar.c KA7.out
            have cb := PVar.c KB7.out
            have cf := PVar.c KF7.out
            rcases hv3 with rfl | rfl | rfl
            all_goals
              go_wp2_with fail
              go_roundg (n - (k + 1))
              case measure => omega
              case rel => exact ⟨k + 1, by norm_cast, by congr 1; rw [HS1.out]; unfold crs1; omega, by omega, Nat.le_refl _, HK1, KF7, hb7⟩
          · go_wp2_with fail
            go_roundg (n - (k + 1))
            case measure => omega
            case rel => exact ⟨k + 1, by norm_cast, by congr 1; rw [HS1.out]; unfold crs1; omega, by omega, Nat.le_refl _, HK1, KF6, hb6⟩
        · by_cases h2 : py < b_y
          · go_wp2_with fail
            go_roundg (n - (k + 1))
            case measure => omega
            case rel => exact ⟨k + 1, by norm_cast, by congr 1; rw [HS1.out]; unfold crs1; omega, by omega, Nat.le_refl _, HK1, KF6, hb6⟩
          · go_wp2_with fail
            refine (Turn_is ax ay bx b_y px py v HV.out _).mono ?_
            rintro e W6 ⟨rfl, hn6⟩
            have KF7 := Lib.hid (KF6.out.of hn6)
            have hb7 := hb6.trans (hn6.mono hb6.size)
            clear hn6 hb6 ca cb cf KF6 KA KB
            rcases hv3 with rfl | rfl | rfl
            all_goals
              go_wp2_with fail
              go_roundg (n - (k + 1))
              case measure => omega
              case rel => exact ⟨k + 1, by norm_cast, by congr 1; rw [HS1.out]; unfold crs1; omega, by omega, Nat.le_refl _, HK1, KF7, hb7⟩
      · have ho : o = true := by
          rw [← HN.out]
          refine onK_true (k := k) ?_ n hlt
          rw [HX.out.1, HX.out.2.1, HX.out.2.2.1, HX.out.2.2.2.1, HX.out.2.2.2.2, HOB.out]
        subst ho
        clear HN HK
        go_wp2
        simp [bodyPost, results, Try.results18, go_sem]
        exact hb6
    · have hkn : k = n := by omega
      subst hkn
      have ho : o = false := by rw [← HN.out, HK.out]
      subst ho
      clear HN HK
      go_wp2
      simp [bodyPost, results, Try.results18, go_sem]
      exact hb
end Go.Proofs.Ytjboamjfdifjjaa

namespace Go.Proofs.Ytjboamjfdifjjaa
open Go.RowKit

set_option maxRecDepth 100000 in
set_option maxHeartbeats 4000000 in
theorem rWinds_is (ao : Option Addr) (n cap : Nat) (X Y : Nat → Int) (px py : Int) (w : World) (h : Pts w ao n cap X Y) (hn : n ≤ 60) (z : Int) (hz : sumN (wst n px py X Y) n = 4 * z) :
    Calls Try.prog 19 #[.slice ao n cap, pI px py] w fun e w' => e = .returned (.int .i64 z) ∧ Below w.heap.size w w' := by
  have hcl := h.capl
  have hcb := h.capb
  have HO := Lib.hid h
  have HZ := Lib.hid hz
  clear h hz
  go_enter Try.func19, Try.ntmps19
  go_wp2_with fail
  refine name_world ?_
  intro V hV
  have kf : QVar V w.heap.size px py := by rw [hV]; exact Blk.new _ _ _
  have hbV : Below w.heap.size w V := by rw [hV]; exact below_a1 _ _
  clear hV
  have KF := Lib.hid kf
  clear kf
  go_wp2_with fail
  go_loopg [5, 6] n (fun gk s5 s6 wr => ∃ k : Nat, s6 = .int .i64 k ∧ s5 = .int .i64 (sumN (wst n px py X Y) k) ∧ k ≤ n ∧ n - k ≤ gk ∧ Hid (QVar wr w.heap.size px py) ∧ Below w.heap.size w wr)
  case atStart => exact ⟨0, rfl, rfl, Nat.zero_le _, by omega, KF, hbV⟩
  case round =>
    clear KF hbV
    obtain ⟨k, rfl, rfl, hk, hg, KF, hb⟩ := hrel
    by_cases hlt : k < n
    · have hnn : nx n k < n := nx_lt hlt
      obtain ⟨a, rfl, p0, p1⟩ := HO.out.at hb hlt
      obtain ⟨ax, hax⟩ : ∃ x, X k = x := ⟨_, rfl⟩
      obtain ⟨ay, hay⟩ : ∃ x, Y k = x := ⟨_, rfl⟩
      obtain ⟨m, hm⟩ : ∃ m, nx n k = m := ⟨_, rfl⟩
      rw [hm] at hnn
      have qq := HO.out.atS hb hnn
      obtain ⟨bx, hbx⟩ : ∃ x, X m = x := ⟨_, rfl⟩
      obtain ⟨b_y, hby⟩ : ∃ x, Y m = x := ⟨_, rfl⟩
      rw [hax] at p0
      rw [hay] at p1
      rw [hbx, hby] at qq
      obtain ⟨q0, q1⟩ := qq
      have hmod : Int.tmod ((k : Int) + 1) (n : Int) = (m : Int) := by
        rw [Int.tmod_eq_emod_of_nonneg (by omega), ← hm]; unfold nx; norm_cast
      have hn0 : ¬ n = 0 := by omega
      obtain ⟨v, hv⟩ : ∃ v, way ax ay bx b_y px py = v := ⟨_, rfl⟩
      obtain ⟨u1, hu1⟩ : ∃ v, qrt (ax - px) (ay - py) = v := ⟨_, rfl⟩
      obtain ⟨u2, hu2⟩ : ∃ v, qrt (bx - px) (b_y - py) = v := ⟨_, rfl⟩
      have HV := Lib.hid hv
      have HU1 := Lib.hid hu1
      have HU2 := Lib.hid hu2
      have hv3 : v = -1 ∨ v = 0 ∨ v = 1 := by rw [← hv]; exact way_cases _ _ _ _ _ _
      have b1 : 0 ≤ u1 ∧ u1 ≤ 3 := by rw [← hu1]; unfold qrt; omega
      have b2 : 0 ≤ u2 ∧ u2 ≤ 3 := by rw [← hu2]; unfold qrt; omega
      have hws : wst n px py X Y k = stp (u2 - u1) v := by unfold wst; rw [hm, hax, hay, hbx, hby, hv, hu1, hu2]
      have bd : -(3 * (k : Int)) ≤ sumN (wst n px py X Y) k ∧ sumN (wst n px py X Y) k ≤ 3 * k := by
        have := sumN_bd (f := wst n px py X Y) (B := 3) k fun i _ => wst_bd n px py X Y i
        omega
      have hs1 : sumN (wst n px py X Y) (k + 1) = sumN (wst n px py X Y) k + stp (u2 - u1) v := by rw [← hws]; rfl
      have HS1 := Lib.hid hs1
      obtain ⟨s, hs⟩ : ∃ s, sumN (wst n px py X Y) k = s := ⟨_, rfl⟩
      rw [hs] at bd HS1 ⊢
      clear hm hax hay hbx hby hv hws hs hs1 hu1 hu2
      have r0 : ∀ o, (wr.alloc o).cell? (a.add (m * 2)) = some (.int .i64 bx) := fun o => ((below_a1 wr o).cell (World.block_lt_of_cell? _ _ q0)).trans q0
      have r1 : ∀ o, (wr.alloc o).cell? { block := (a.add (m * 2)).block, off := (a.add (m * 2)).off + 1 } = some (.int .i64 b_y) := fun o => ((below_a1 wr o).cell (World.block_lt_of_cell? _ _ q1)).trans q1
      clear q0 q1
      have cf := QVar.c KF.out
      have lf := KF.out.lt
      go_wp2_with fail
      refine name_world ?_
      intro W3 hW3
      have ka : QVar W3 wr.heap.size ax ay := by rw [hW3]; exact (Blk.new wr _ _).alloc _
      have kb : QVar W3 (wr.heap.size + 1) bx b_y := by rw [hW3]; exact Blk.new1 wr _ _ _
      have hb4 : Below wr.heap.size wr W3 := by rw [hW3]; exact below_a2 _ _ _
      clear hW3 p0 p1 r0 r1 hmod cf lf
      have hb5 := hb.trans (hb4.mono hb.size)
      have KF5 := Lib.hid (KF.out.of hb4)
      clear KF hb4 hb
      have KA5 := Lib.hid ka
      have KB5 := Lib.hid kb
      clear ka kb
      have ca := QVar.c KA5.out
      have cb := QVar.c KB5.out
      have cf := QVar.c KF5.out
      have la := KA5.out.lt
      have lb := KB5.out.lt
      have lf := KF5.out.lt
      refine wp_region_up W3.heap.size 5 [(true, 0), (true, 1), (true, 3), (true, 4), (false, 2)] (by kernel_rfl) (by kernel_rfl) (fun _ _ d _ _ h => by cases d <;> exact h) ?_
      have hb : Below W3.heap.size W3 W3.drew := (Below.refl _ _).drew
      iterate 4
        refine wpS_takeL rfl rfl ?_
        go_big_quiet_step (rfl)
        refine wpQuiet_nil ?_
      refine wpS_doL rfl ?_
      intro K hK
      go_wp2_with ((first | (go_at_call 43; (with_reducible refine (quarter_is ax ay px py u1 HU1.out _).mono ?_); rintro e w2 ⟨rfl, hn⟩) | (go_at_call 43; (with_reducible refine (quarter_is bx b_y px py u2 HU2.out _).mono ?_); rintro e w2 ⟨rfl, hn⟩)))
      replace hb := hb.trans (hn.mono hb.size)
      refine hK.out _ _ (up_iff.2 hb) ?_
      clear hK K
      clear hn
      refine wpS_nil ?_
      simp only [List.drop_succ_cons, List.drop_zero]
      have KA6 := Lib.hid (KA5.out.of hb)
      have KB6 := Lib.hid (KB5.out.of hb)
      have KF6 := Lib.hid (KF5.out.of hb)
      have hb6 := hb5.trans (hb.mono hb5.size)
      clear hb ca cb cf la lb lf KA5 KB5 KF5 hb5
      have ca := QVar.c KA6.out
      have cf := QVar.c KF6.out
      go_wp2_with fail
      refine (quarter_is ax ay px py u1 HU1.out _).mono ?_
      rintro e W5 ⟨rfl, hn4⟩
      have KA7 := Lib.hid (KA6.out.of hn4)
      have KB7 := Lib.hid (KB6.out.of hn4)
      have KF7 := Lib.hid (KF6.out.of hn4)
      have hb7 := hb6.trans (hn4.mono hb6.size)
      clear hn4 ca cf KA6 KB6 KF6 hb6 HU1 HU2
      have ca := QVar.c KA7.out
      have cb := QVar.c KB7.out
      have cf := QVar.c KF7.out
      rcases (show u1 = 0 ∨ u1 = 1 ∨ u1 = 2 ∨ u1 = 3 by omega) with rfl | rfl | rfl | rfl <;> rcases (show u2 = 0 ∨ u2 = 1 ∨ u2 = 2 ∨ u2 = 3 by omega) with rfl | rfl | rfl | rfl
      · go_wp2_with fail
        go_roundg (n - (k + 1))
        case measure => omega
        case rel => exact ⟨k + 1, by norm_cast, by congr 1; rw [HS1.out]; unfold stp; omega, by omega, Nat.le_refl _, KF7, hb7⟩
      · go_wp2_with fail
        go_roundg (n - (k + 1))
        case measure => omega
        case rel => exact ⟨k + 1, by norm_cast, by congr 1; rw [HS1.out]; unfold stp; omega, by omega, Nat.le_refl _, KF7, hb7⟩
      · go_wp2_with fail
        refine (rWay_is ax ay bx b_y px py v HV.out _).mono ?_
        rintro e W6 ⟨rfl, hn4⟩
        have KF8 := Lib.hid (KF7.out.of hn4)
        have hb8 := hb7.trans (hn4.mono hb7.size)
        clear hn4 ca cb cf KA7 KB7 KF7 hb7
        rcases hv3 with rfl | rfl | rfl
        all_goals
          go_wp2_with fail
          go_roundg (n - (k + 1))
          case measure => omega
          case rel => exact ⟨k + 1, by norm_cast, by congr 1; rw [HS1.out]; unfold stp; omega, by omega, Nat.le_refl _, KF8, hb8⟩
      · go_wp2_with fail
        go_roundg (n - (k + 1))
        case measure => omega
        case rel => exact ⟨k + 1, by norm_cast, by congr 1; rw [HS1.out]; unfold stp; omega, by omega, Nat.le_refl _, KF7, hb7⟩
      · go_wp2_with fail
        go_roundg (n - (k + 1))
        case measure => omega
        case rel => exact ⟨k + 1, by norm_cast, by congr 1; rw [HS1.out]; unfold stp; omega, by omega, Nat.le_refl _, KF7, hb7⟩
      · go_wp2_with fail
        go_roundg (n - (k + 1))
        case measure => omega
        case rel => exact ⟨k + 1, by norm_cast, by congr 1; rw [HS1.out]; unfold stp; omega, by omega, Nat.le_refl _, KF7, hb7⟩
      · go_wp2_with fail
        go_roundg (n - (k + 1))
        case measure => omega
        case rel => exact ⟨k + 1, by norm_cast, by congr 1; rw [HS1.out]; unfold stp; omega, by omega, Nat.le_refl _, KF7, hb7⟩
      · go_wp2_with fail
        refine (rWay_is ax ay bx b_y px py v HV.out _).mono ?_
        rintro e W6 ⟨rfl, hn4⟩
        have KF8 := Lib.hid (KF7.out.of hn4)
        have hb8 := hb7.trans (hn4.mono hb7.size)
        clear hn4 ca cb cf KA7 KB7 KF7 hb7
        rcases hv3 with rfl | rfl | rfl
        all_goals
          go_wp2_with fail
          go_roundg (n - (k + 1))
          case measure => omega
          case rel => exact ⟨k + 1, by norm_cast, by congr 1; rw [HS1.out]; unfold stp; omega, by omega, Nat.le_refl _, KF8, hb8⟩
      · go_wp2_with fail
        refine (rWay_is ax ay bx b_y px py v HV.out _).mono ?_
        rintro e W6 ⟨rfl, hn4⟩
        have KF8 := Lib.hid (KF7.out.of hn4)
        have hb8 := hb7.trans (hn4.mono hb7.size)
        clear hn4 ca cb cf KA7 KB7 KF7 hb7
        rcases hv3 with rfl | rfl | rfl
        all_goals
          go_wp2_with fail
          go_roundg (n - (k + 1))
          case measure => omega
          case rel => exact ⟨k + 1, by norm_cast, by congr 1; rw [HS1.out]; unfold stp; omega, by omega, Nat.le_refl _, KF8, hb8⟩
      · go_wp2_with fail
        go_roundg (n - (k + 1))
        case measure => omega
        case rel => exact ⟨k + 1, by norm_cast, by congr 1; rw [HS1.out]; unfold stp; omega, by omega, Nat.le_refl _, KF7, hb7⟩
      · go_wp2_with fail
        go_roundg (n - (k + 1))
        case measure => omega
        case rel => exact ⟨k + 1, by norm_cast, by congr 1; rw [HS1.out]; unfold stp; omega, by omega, Nat.le_refl _, KF7, hb7⟩
      · go_wp2_with fail
        go_roundg (n - (k + 1))
        case measure => omega
        case rel => exact ⟨k + 1, by norm_cast, by congr 1; rw [HS1.out]; unfold stp; omega, by omega, Nat.le_refl _, KF7, hb7⟩
      · go_wp2_with fail
        go_roundg (n - (k + 1))
        case measure => omega
        case rel => exact ⟨k + 1, by norm_cast, by congr 1; rw [HS1.out]; unfold stp; omega, by omega, Nat.le_refl _, KF7, hb7⟩
      · go_wp2_with fail
        refine (rWay_is ax ay bx b_y px py v HV.out _).mono ?_
        rintro e W6 ⟨rfl, hn4⟩
        have KF8 := Lib.hid (KF7.out.of hn4)
        have hb8 := hb7.trans (hn4.mono hb7.size)
        clear hn4 ca cb cf KA7 KB7 KF7 hb7
        rcases hv3 with rfl | rfl | rfl
        all_goals
          go_wp2_with fail
          go_roundg (n - (k + 1))
          case measure => omega
          case rel => exact ⟨k + 1, by norm_cast, by congr 1; rw [HS1.out]; unfold stp; omega, by omega, Nat.le_refl _, KF8, hb8⟩
      · go_wp2_with fail
        go_roundg (n - (k + 1))
        case measure => omega
        case rel => exact ⟨k + 1, by norm_cast, by congr 1; rw [HS1.out]; unfold stp; omega, by omega, Nat.le_refl _, KF7, hb7⟩
      · go_wp2_with fail
        go_roundg (n - (k + 1))
        case measure => omega
        case rel => exact ⟨k + 1, by norm_cast, by congr 1; rw [HS1.out]; unfold stp; omega, by omega, Nat.le_refl _, KF7, hb7⟩
    · have hkn : k = n := by omega
      subst hkn
      rw [HZ.out]
      have hzb : -180 ≤ 4 * z ∧ 4 * z ≤ 180 := by
        rw [← HZ.out]
        have := sumN_bd (f := wst k px py X Y) (B := 3) k fun i _ => wst_bd k px py X Y i
        omega
      have htd : Int.tdiv (4 * z) 4 = z := Int.mul_tdiv_cancel_left z (by decide)
      go_wp2_with fail
      go_ret
      exact ⟨rfl, hb⟩
end Go.Proofs.Ytjboamjfdifjjaa

namespace Go.Proofs.Ytjboamjfdifjjaa
open Go.RowKit

section
variable {P : Program} {C : World → Prop} {Q : Exit → Act → World → Prop}
theorem len_value {o : Oper} {c : Call} {ρ : Operand → Value} {w w' : World} {n : Next} (hp : o.op = .call c) (hb : c.callee = .builtin .len) (h : (execOp ρ o).run P w = .ok n w') : ∃ v, n = .value v := by
  unfold execOp at h
  rw [hp] at h
  dsimp only at h
  unfold resolve at h
  rw [hb] at h
  simp only [Sem.run_bind, Sem.run_pure, Result.andThen_ok, invoke, builtin] at h
  cases h1 : Sem.run P (Builtin.len_ c.argTypes o.type (c.args.map ρ)) w with
  | halt y w1 => rw [h1] at h; simp [Result.andThen] at h
  | ok p w1 => rw [h1] at h; simp only [Result.andThen] at h; exact ⟨_, ((Result.ok.inj h).1).symm⟩
theorem len_yields {o : Oper} {c : Call} {a : Act} {v : Value} (hp : o.op = .call c) (hb : c.callee = .builtin .len) (h : ∀ w, C w → o.quietAt P a C w v) : ∀ w, C w → (execOp a.eval o).run P w = .ok (.value v) w := by
  intro w hw
  have h3 := h w hw
  unfold Oper.quietAt at h3
  cases hr : (execOp a.eval o).run P w with
  | ok n w' =>
    rw [hr] at h3
    obtain ⟨u, rfl⟩ := len_value hp hb hr
    simp only [Oper.quietUpon] at h3
    rw [h3.1, h3.2]
  | halt x w' => rw [hr] at h3; simp only [Oper.quietUpon] at h3
theorem wpS_takeB {l : List Oper} {T : Act → World → Prop} {σ : List (Bool × Nat)} {i : Nat} {o : Oper} {c : Call} {a : Act} {w : World} (ho : l[i]? = some o) (hp : o.op = .call c) (hb : c.callee = .builtin .len)
    (h : wpQuiet P l.toArray C (fun a' => wpS P l.toArray C Q T σ a' w) [o] a) : wpS P l.toArray C Q T ((true, i) :: σ) a w := by
  unfold wpQuiet at h
  by_cases hw : Region.wanted o (yielded l.toArray a.tmps) = true
  · rw [if_pos hw] at h
    obtain ⟨v, h1, h2⟩ := h
    exact ⟨o, v, by simpa using ho, .inl ⟨hw, len_yields hp hb h1⟩, h2⟩
  · rw [if_neg hw] at h
    exact ⟨o, undef, by simpa using ho, .inr ⟨by simpa using hw, rfl⟩, h⟩
end
end Go.Proofs.Ytjboamjfdifjjaa

namespace Go.Proofs.Ytjboamjfdifjjaa
open Go.RowKit

/-- the cells of the first k points -/
def fw (X Y : Nat → Int) : Nat → List Value
  | 0 => []
  | k + 1 => fw X Y k ++ [.int .i64 (X k), .int .i64 (Y k)]
theorem fw_len (X Y : Nat → Int) : ∀ k, (fw X Y k).length = k * 2
  | 0 => rfl
  | k + 1 => by show (fw X Y k ++ _).length = _; rw [List.length_append, fw_len X Y k]; show k * 2 + 2 = _; omega
theorem fw_at (X Y : Nat → Int) : ∀ k j, j < k → (fw X Y k)[j * 2]? = some (.int .i64 (X j)) ∧ (fw X Y k)[j * 2 + 1]? = some (.int .i64 (Y j))
  | 0, j, h => by omega
  | k + 1, j, h => by
    show (fw X Y k ++ _)[j * 2]? = _ ∧ (fw X Y k ++ _)[j * 2 + 1]? = _
    by_cases e : j = k
    · subst e
      rw [List.getElem?_append_right (by rw [fw_len]; omega), List.getElem?_append_right (by rw [fw_len]; omega), fw_len, show j * 2 - j * 2 = 0 by omega, show j * 2 + 1 - j * 2 = 1 by omega]
      exact ⟨rfl, rfl⟩
    · rw [List.getElem?_append_left (by rw [fw_len]; omega), List.getElem?_append_left (by rw [fw_len]; omega)]
      exact fw_at X Y k j (by omega)
theorem add_pl (g o n : Nat) : (⟨g, o, none⟩ : Addr).add n = ⟨g, o + n, none⟩ := by
  unfold Addr.add; split
  · rename_i h; rw [h, Nat.add_zero]
  · rfl
/-- the points lie in own memory -/
def PF (w : World) (base : Nat) (v : Value) (k : Nat) (X Y : Nat → Int) : Prop := w.ownsRow base 31 2 v k (fw X Y k)
theorem PF.nil (w : World) (base : Nat) (X Y : Nat → Int) : PF w base (.slice none 0 0) 0 X Y := ⟨rfl, .inl ⟨rfl, rfl⟩⟩
theorem PF.pts {w : World} {base : Nat} {v : Value} {k : Nat} {X Y : Nat → Int} (h : PF w base v k X Y) :
    ∃ ao cap, v = .slice ao k cap ∧ Pts w ao k cap X Y := by
  rcases h.2 with ⟨rfl, rfl⟩ | ⟨g, cap, cur, rfl, hb, hg, h1, h2, h3, h4⟩
  · exact ⟨none, 0, rfl, fun h => absurd h (by omega), Nat.le_refl _, by omega⟩
  · refine ⟨some ⟨g, 0, none⟩, cap, rfl, fun _ => ⟨_, rfl, (Array.getElem?_eq_some_iff.1 hg).1, fun i hi => ?_⟩, h1, by unfold maxLen at h2; omega⟩
    have key : ∀ o u, o < k * 2 → (fw X Y k)[o]? = some u → w.cell? ⟨g, o, none⟩ = some u := fun o u ho hu => by
      rw [← h4, List.getElem?_take_of_lt ho, Array.getElem?_toList] at hu
      unfold World.cell?
      simp [hg, hu]
    have := fw_at X Y k i hi
    refine ⟨?_, ?_⟩
    · rw [add_pl, Nat.zero_add]; exact key _ _ (by omega) this.1
    · rw [add_pl, add_pl, Nat.zero_add]; exact key _ _ (by omega) this.2
theorem info_rpt : (Try.prog.info? 31).map (fun i => (i.zero, i.size, i.bytes)) = some (some (.agg #[.int .i64 0, .int .i64 0]), 2, 16) := by kernel_rfl
theorem own_below {w w' : World} {base : Nat} {v : Value} {n : Nat} {xs : List Value} {e : TypeId} {sz : Nat} (h : w.ownsRow base e sz v n xs) (hb : Below w.heap.size w w') : w'.ownsRow base e sz v n xs := by
  refine ⟨h.1, h.2.imp id ?_⟩
  rintro ⟨g, cap, cur, rfl, hbg, hg, r⟩
  exact ⟨g, cap, cur, rfl, hbg, (hb.block _ (Array.getElem?_eq_some_iff.1 hg).1).trans hg, r⟩
theorem PF.of {w w' : World} {base : Nat} {v : Value} {k : Nat} {X Y : Nat → Int} (h : PF w base v k X Y) (hb : Below w.heap.size w w') : PF w' base v k X Y := own_below h hb
/-- one point more -/
theorem wpList_append_fw {w : World} {ops : Array Oper} {rest : List Oper} {o : Oper} {a : Act} {Q : Exit → Act → World → Prop} (hgd : o.guard = none) (s x : Operand)
    (ho : o.op = .call { callee := .builtin .append, args := #[s, x], argTypes := #[44, 44] })
    (base : Nat) (v : Value) (k : Nat) (X Y : Nat → Int) (px py : Int) (g : Nat) (hs : a.eval s = v) (hx : a.eval x = .slice (some ⟨g, 0, none⟩) 1 1) (c0 : w.cell? ⟨g, 0, none⟩ = some (.int .i64 px)) (c1 : w.cell? ⟨g, 1, none⟩ = some (.int .i64 py))
    (hpb : PF w base v k X Y) (ex : X k = px) (ey : Y k = py) (hk : k < 60) (hb : base ≤ w.heap.size)
    (h : ∀ v' w', PF w' base v' (k + 1) X Y → Below base w w' → wpList Try.prog ops Q rest (a.put o.dst v') w') : wpList Try.prog ops Q (o :: rest) a w := by
  obtain ⟨i0, hi, hz0, hz1, hz2⟩ := info_parts info_rpt
  refine wpList_append_own w hgd s x _ ho base 31 i0 (Value.agg #[.int .i64 0, .int .i64 0]) 2 16 Try.underlying44 hi hz0 hz1 hz2 rfl (by decide) v k _ hs hpb ⟨g, 0, none⟩ 1 1 [.int .i64 px, .int .i64 py] hx rfl ?_ ?_ (by unfold maxLen; omega) (by omega) hb ?_
  · intro j u hj
    match j, hj with
    | 0, hj => simp at hj; subst hj; rw [add_pl]; exact c0
    | 1, hj => simp at hj; subst hj; rw [add_pl]; exact c1
  · intro u hu; simp at hu; rcases hu with rfl | rfl <;> rfl
  · intro v' w' o1 gr _
    refine h v' w' ?_ ((Below.refl _ _).grown gr hb (fun kk hkk => (World.ownsRow.lt hpb kk hkk).1))
    show w'.ownsRow base _ 2 v' (k + 1) (fw X Y k ++ _)
    rw [ex, ey]; exact o1
end Go.Proofs.Ytjboamjfdifjjaa

namespace Go.Proofs.Ytjboamjfdifjjaa
open Go.RowKit

def allK (X Y : Nat → Int) : Nat → Bool
  | 0 => true
  | k + 1 => allK X Y k && rp (X k) (Y k)
theorem allK_allC (X Y : Nat → Int) : ∀ k, allK X Y k = allC k X Y
  | 0 => rfl
  | k + 1 => by
    unfold allC
    rw [List.range_succ, List.all_append]
    show (allK X Y k && rp (X k) (Y k)) = ((List.range k).all _ && _)
    rw [allK_allC X Y k]; simp [allC, rp]
theorem rOn_is (ax ay bx b_y cx cy : Int) (r : Bool) (h : onB ax ay bx b_y cx cy = r) (w : World) :
    Calls Try.prog 17 #[pI ax ay, pI bx b_y, pI cx cy] w fun e w' => e = .returned (.bool r) ∧ Below w.heap.size w w' := h ▸ rOn_any ax ay bx b_y cx cy w
set_option maxRecDepth 100000 in
set_option maxHeartbeats 2000000 in
theorem PointWinds_big (ao : Option Addr) (n cap : Nat) (X Y : Nat → Int) (fx fy : Int) (w : World) (h : Pts w ao n cap X Y) (hbig : 60 < n) :
    Calls Try.prog 4 #[.slice ao n cap, pI fx fy] w fun e w' => e = .returned (.bool true) ∧ Below w.heap.size w w' := by
  have hcl := h.capl
  have hcb := h.capb
  clear h
  go_enter Try.func4, Try.ntmps4
  go_wp2_with fail
  refine calls_w ?_
  intro V hV
  have hbV : Below w.heap.size w V := by rw [hV]; exact below_a1 _ _
  clear hV
  refine (pawake_any V).mono ?_
  rintro e W2 ⟨rfl, hn⟩
  have hb2 := hbV.trans (hn.mono hbV.size)
  clear hn hbV
  go_wp2
  go_ret
  exact ⟨rfl, hb2⟩
set_option maxRecDepth 100000 in
set_option maxHeartbeats 4000000 in
theorem PointWinds_any (ao : Option Addr) (n cap : Nat) (X Y : Nat → Int) (fx fy : Int) (w : World) (h : Pts w ao n cap X Y) (hn60 : ¬ 60 < n) :
    Calls Try.prog 4 #[.slice ao n cap, pI fx fy] w fun e w' => e = .returned (.bool true) ∧ Below w.heap.size w w' := by
  have hcl := h.capl
  have hcb := h.capb
  have HO := Lib.hid h
  clear h
  obtain ⟨r, hr⟩ : ∃ r, rp fx fy = r := ⟨_, rfl⟩
  have HR := Lib.hid hr
  clear hr
  go_enter Try.func4, Try.ntmps4
  go_wp2_with fail
  refine calls_w ?_
  intro V hV
  have kf : PVar V w.heap.size fx fy := by rw [hV]; exact Blk.new w _ _
  have hbV : Below w.heap.size w V := by rw [hV]; exact below_a1 _ _
  have hsV : w.heap.size + 1 ≤ V.heap.size := by rw [hV]; simp
  clear hV
  refine (pref_any fx fy V).mono ?_
  rintro e W1 ⟨rfl, hn1⟩
  have kf1 := kf.of hn1
  have hb1 := hbV.trans (hn1.mono hbV.size)
  have hs1 := Nat.le_trans hsV hn1.size
  clear hn1 kf hbV hsV
  go_wp2_with fail
  refine (rR_is fx fy r HR.out _).mono ?_
  rintro e W2 ⟨rfl, hn1⟩
  have KF := Lib.hid (kf1.of hn1)
  have hb2 := hb1.trans (hn1.mono hb1.size)
  have hs2 := Nat.le_trans hs1 hn1.size
  clear hn1 kf1 hb1 hs1
  go_wp2_with fail
  go_loopg [5, 6, 7, 22] n (fun gk s5 s6 s7 s22 wr => ∃ (k : Nat) (g o : Bool), s22 = .int .i64 k ∧ s5 = .bool g ∧ s6 = .bool o ∧ k ≤ n ∧ n - k ≤ gk ∧ Hid ((r && allK X Y k) = g) ∧ Hid (onK n fx fy X Y k = o) ∧ Hid (PVar wr w.heap.size fx fy) ∧ Hid (PF wr (w.heap.size + 1) s7 k X Y) ∧ Below w.heap.size w wr ∧ w.heap.size + 1 ≤ wr.heap.size)
  case atStart => exact ⟨0, r, false, rfl, rfl, rfl, Nat.zero_le _, by omega, Lib.hid (by cases r <;> rfl), Lib.hid rfl, KF, Lib.hid (PF.nil _ _ _ _), hb2, hs2⟩
  case round =>
    clear KF hb2 hs2
    obtain ⟨k, g, o, rfl, rfl, rfl, hk, hg, HG, HN, KF, HB, hb, hs⟩ := hrel
    by_cases hlt : k < n
    · have hnn : nx n k < n := nx_lt hlt
      obtain ⟨a, rfl, p0, p1⟩ := HO.out.at hb hlt
      obtain ⟨px, hpx⟩ : ∃ x, X k = x := ⟨_, rfl⟩
      obtain ⟨py, hpy⟩ : ∃ x, Y k = x := ⟨_, rfl⟩
      obtain ⟨r2, hr2⟩ : ∃ r, rp px py = r := ⟨_, rfl⟩
      obtain ⟨m, hm⟩ : ∃ m, nx n k = m := ⟨_, rfl⟩
      rw [hm] at hnn
      obtain ⟨qx, hqx⟩ : ∃ x, X m = x := ⟨_, rfl⟩
      obtain ⟨qy, hqy⟩ : ∃ x, Y m = x := ⟨_, rfl⟩
      obtain ⟨o2, ho2⟩ : ∃ o, onB px py qx qy fx fy = o := ⟨_, rfl⟩
      rw [hpx] at p0
      rw [hpy] at p1
      have hmod : Int.tmod ((k : Int) + 1) (n : Int) = (m : Int) := by
        rw [Int.tmod_eq_emod_of_nonneg (by omega), ← hm]; unfold nx; norm_cast
      have hn0 : ¬ n = 0 := by omega
      have HX := Lib.hid (And.intro hpx hpy)
      have HQ := Lib.hid (And.intro hqx hqy)
      have HR2 := Lib.hid hr2
      have HO2 := Lib.hid ho2
      obtain ⟨g', HG', hcas⟩ : ∃ g', Hid ((r && allK X Y (k + 1)) = g') ∧ ((g = false ∧ g' = false) ∨ (g = true ∧ g' = r2)) := by
        refine ⟨r && allK X Y (k + 1), Lib.hid rfl, ?_⟩
        show (g = false ∧ (r && (allK X Y k && rp (X k) (Y k))) = false) ∨ (g = true ∧ (r && (allK X Y k && rp (X k) (Y k))) = r2)
        rw [hpx, hpy, hr2, ← Bool.and_assoc, HG.out]
        cases g <;> simp
      obtain ⟨o', HN', hcao⟩ : ∃ o', Hid (onK n fx fy X Y (k + 1) = o') ∧ ((o = true ∧ o' = true) ∨ (o = false ∧ o' = o2)) := by
        refine ⟨onK n fx fy X Y (k + 1), Lib.hid rfl, ?_⟩
        show (o = true ∧ (onK n fx fy X Y k || onB (X k) (Y k) (X (nx n k)) (Y (nx n k)) fx fy) = true) ∨ (o = false ∧ (onK n fx fy X Y k || onB (X k) (Y k) (X (nx n k)) (Y (nx n k)) fx fy) = o2)
        rw [hm, hpx, hpy, hqx, hqy, ho2, HN.out]
        cases o <;> simp
      clear hpx hpy hqx hqy hr2 ho2 hm HG HN
      rcases hcas with ⟨rfl, rfl⟩ | ⟨rfl, rfl⟩
      · go_wp2_with fail
        refine name_world ?_
        intro W3 hW3
        have kp : PVar W3 wr.heap.size px py := by rw [hW3]; exact (Blk.new wr _ _)
        have hbq : Below wr.heap.size wr W3 := by rw [hW3]; exact below_a1 _ _
        clear hW3 p0 p1
        have KP3 := Lib.hid kp
        have KF3 := Lib.hid (KF.out.of hbq)
        have HB3 := Lib.hid (HB.out.of hbq)
        have hs3 := Nat.le_trans hs hbq.size
        have hb3 := hb.trans (hbq.mono hb.size)
        have cp := PVar.c KP3.out
        have cf := PVar.c KF3.out
        have lp := KP3.out.lt
        have lf := KF3.out.lt
        clear KF HB hb hs hbq kp
        rcases hcao with ⟨rfl, rfl⟩ | ⟨rfl, rfl⟩
        · go_wp2_with fail
          refine wp_region_up W3.heap.size 14 [(true, 0), (true, 1), (true, 2), (true, 4), (true, 5), (true, 6), (true, 7), (true, 8), (true, 9), (true, 10), (true, 11), (true, 13), (false, 3), (false, 12)] (by kernel_rfl) (by kernel_rfl) (fun _ _ d _ _ h => by cases d <;> exact h) ?_
          have hb : Below W3.heap.size W3 W3.drew := (Below.refl _ _).drew
          iterate 12
            first | refine wpS_takeL rfl rfl ?_ | refine wpS_takeB rfl rfl rfl ?_
            first | go_big_quiet_step (rfl) | (go_big_quiet_want; go_big_quiet_op; refine ⟨_, fun _ => rfl, ?_⟩; go_big_quiet_on)
            refine wpQuiet_nil ?_
          refine wpS_doL rfl ?_
          intro K hK
          go_wp2_with (fail)
          try replace hb := hb.trans (hn.mono hb.size)
          refine hK.out _ _ (up_iff.2 hb) ?_
          clear hK K
          try clear hn
          refine wpS_doL rfl ?_
          intro K hK
          go_wp2_with (fail)
          try replace hb := hb.trans (hn.mono hb.size)
          refine hK.out _ _ (up_iff.2 hb) ?_
          clear hK K
          try clear hn
          refine wpS_nil ?_
          simp only [List.drop_succ_cons, List.drop_zero]
          go_wp2_with fail
          refine (pref_any px py _).mono ?_
          rintro e W4 ⟨rfl, hn⟩
          replace hn := hb.trans (hn.mono hb.size)
          clear hb
          have KF4 := Lib.hid (KF3.out.of hn)
          have KP4 := Lib.hid (KP3.out.of hn)
          have HB4 := Lib.hid (HB3.out.of hn)
          have hs4 := Nat.le_trans hs3 hn.size
          have hb4 := hb3.trans (hn.mono hb3.size)
          clear hn hb3 HB3 hs3 KF3 KP3
          clear cp cf lp lf
          go_wp2_with (at_builtin; refine wpList_append_fw rfl _ _ rfl (w.heap.size + 1) _ k X Y px py W4.heap.size rfl rfl ?c0 ?c1 (HB4.out.of ?c2) HX.out.1 HX.out.2 ?c3 ?c4 ?_)
          case c0 => exact (Blk.new W4 _ _).cell 0
          case c1 => exact (Blk.new W4 _ _).cell 1
          case c2 => exact below_a1 _ _
          case c3 => omega
          case c4 => simp; omega
          intro v1 W5 hF hn
          have hbz : Below (w.heap.size + 1) W4 W5 := (below_a1 W4 _ |>.mono hs4).trans hn
          have KFz : Hid (PVar W5 w.heap.size fx fy) := Lib.hid (KF4.out.below hbz (by omega))
          have hbx := hb4.trans (hbz.mono (by omega))
          have hsx := Nat.le_trans hs4 hbz.size
          have HF := Lib.hid hF
          clear hF hn hbz KF4 KP4 HB4 hb4 hs4
          go_wp2_with fail
          go_roundg (n - (k + 1))
          case measure => omega
          case rel => exact ⟨k + 1, false, true, by norm_cast, rfl, rfl, by omega, Nat.le_refl _, HG', HN', KFz, HF, hbx, hsx⟩
        · go_wp2_with fail
          have q := HO.out.atS hb3 hnn
          rw [HQ.out.1, HQ.out.2] at q
          have q0u : ∀ u : UpTo W3.heap.size W3, u.w.cell? (a.add (m * 2)) = some (.int .i64 qx) := fun u => (u.below.cell (World.block_lt_of_cell? _ _ q.1)).trans q.1
          have q1u : ∀ u : UpTo W3.heap.size W3, u.w.cell? { block := (a.add (m * 2)).block, off := (a.add (m * 2)).off + 1 } = some (.int .i64 qy) := fun u => (u.below.cell (World.block_lt_of_cell? _ _ q.2)).trans q.2
          clear q
          refine wp_region_up W3.heap.size 14 [(true, 0), (true, 1), (true, 2), (true, 4), (true, 5), (true, 6), (true, 7), (true, 8), (true, 9), (true, 10), (true, 11), (true, 13), (false, 3), (false, 12)] (by kernel_rfl) (by kernel_rfl) (fun _ _ d _ _ h => by cases d <;> exact h) ?_
          have hb : Below W3.heap.size W3 W3.drew := (Below.refl _ _).drew
          iterate 12
            first | refine wpS_takeL rfl rfl ?_ | refine wpS_takeB rfl rfl rfl ?_
            first | go_big_quiet_step (rfl) | (go_big_quiet_want; go_big_quiet_op; refine ⟨_, fun _ => rfl, ?_⟩; go_big_quiet_on)
            refine wpQuiet_nil ?_
          refine wpS_doL rfl ?_
          intro K hK
          go_wp2_with ((first | (go_at_call 10; (with_reducible refine (pref_any px py _).mono ?_); rintro e w2 ⟨rfl, hn⟩) | (go_at_call 10; (with_reducible refine (pref_any qx qy _).mono ?_); rintro e w2 ⟨rfl, hn⟩) | (go_at_call 10; (with_reducible refine (pref_any fx fy _).mono ?_); rintro e w2 ⟨rfl, hn⟩)))
          try replace hb := hb.trans (hn.mono hb.size)
          refine hK.out _ _ (up_iff.2 hb) ?_
          clear hK K
          try clear hn
          refine wpS_doL rfl ?_
          intro K hK
          go_wp2_with ((first | (go_at_call 10; (with_reducible refine (pref_any px py _).mono ?_); rintro e w2 ⟨rfl, hn⟩) | (go_at_call 10; (with_reducible refine (pref_any qx qy _).mono ?_); rintro e w2 ⟨rfl, hn⟩) | (go_at_call 10; (with_reducible refine (pref_any fx fy _).mono ?_); rintro e w2 ⟨rfl, hn⟩)))
          try replace hb := hb.trans (hn.mono hb.size)
          refine hK.out _ _ (up_iff.2 hb) ?_
          clear hK K
          try clear hn
          refine wpS_nil ?_
          simp only [List.drop_succ_cons, List.drop_zero]
          clear q0u q1u
          have KF4 := Lib.hid (KF3.out.of hb)
          have KP4 := Lib.hid (KP3.out.of hb)
          have HB4 := Lib.hid (HB3.out.of hb)
          have hs4 := Nat.le_trans hs3 hb.size
          have hb4 := hb3.trans (hb.mono hb3.size)
          clear hb hb3 HB3 hs3 KF3 KP3
          clear cp cf lp lf
          have cp := PVar.c KP4.out
          have cf := PVar.c KF4.out
          have lp := KP4.out.lt
          have lf := KF4.out.lt
          go_wp2_with fail
          refine (pref_any fx fy _).mono ?_
          rintro e W5 ⟨rfl, hn⟩
          have KF5 := Lib.hid (KF4.out.of hn)
          have KP5 := Lib.hid (KP4.out.of hn)
          have HB5 := Lib.hid (HB4.out.of hn)
          have hs5 := Nat.le_trans hs4 hn.size
          have hb5 := hb4.trans (hn.mono hb4.size)
          clear hn hb4 HB4 hs4 KF4 KP4
          clear cp cf lp lf
          have cp := PVar.c KP5.out
          have cf := PVar.c KF5.out
          have lp := KP5.out.lt
          have lf := KF5.out.lt
          go_wp2_with fail
          refine (rOn_is px py qx qy fx fy o' HO2.out _).mono ?_
          rintro e W6 ⟨rfl, hn⟩
          have KF6 := Lib.hid (KF5.out.of hn)
          have KP6 := Lib.hid (KP5.out.of hn)
          have HB6 := Lib.hid (HB5.out.of hn)
          have hs6 := Nat.le_trans hs5 hn.size
          have hb6 := hb5.trans (hn.mono hb5.size)
          clear hn hb5 HB5 hs5 KF5 KP5
          clear cp cf lp lf
          have cp := PVar.c KP6.out
          have cf := PVar.c KF6.out
          have lp := KP6.out.lt
          have lf := KF6.out.lt
          go_wp2_with fail
          refine (pref_any px py _).mono ?_
          rintro e W7 ⟨rfl, hn⟩
          have KF7 := Lib.hid (KF6.out.of hn)
          have KP7 := Lib.hid (KP6.out.of hn)
          have HB7 := Lib.hid (HB6.out.of hn)
          have hs7 := Nat.le_trans hs6 hn.size
          have hb7 := hb6.trans (hn.mono hb6.size)
          clear hn hb6 HB6 hs6 KF6 KP6
          clear cp cf lp lf
          go_wp2_with (at_builtin; refine wpList_append_fw rfl _ _ rfl (w.heap.size + 1) _ k X Y px py W7.heap.size rfl rfl ?c0 ?c1 (HB7.out.of ?c2) HX.out.1 HX.out.2 ?c3 ?c4 ?_)
          case c0 => exact (Blk.new W7 _ _).cell 0
          case c1 => exact (Blk.new W7 _ _).cell 1
          case c2 => exact below_a1 _ _
          case c3 => omega
          case c4 => simp; omega
          intro v1 W8 hF hn
          have hbz : Below (w.heap.size + 1) W7 W8 := (below_a1 W7 _ |>.mono hs7).trans hn
          have KFz : Hid (PVar W8 w.heap.size fx fy) := Lib.hid (KF7.out.below hbz (by omega))
          have hbx := hb7.trans (hbz.mono (by omega))
          have hsx := Nat.le_trans hs7 hbz.size
          have HF := Lib.hid hF
          clear hF hn hbz KF7 KP7 HB7 hb7 hs7
          go_wp2_with fail
          go_roundg (n - (k + 1))
          case measure => omega
          case rel => exact ⟨k + 1, false, o', by norm_cast, rfl, rfl, by omega, Nat.le_refl _, HG', HN', KFz, HF, hbx, hsx⟩
      · go_wp2_with fail
        refine calls_w ?_
        intro W3 hW3
        have kp : PVar W3 wr.heap.size px py := by rw [hW3]; exact (Blk.new wr _ _)
        have hbq : Below wr.heap.size wr W3 := by rw [hW3]; exact below_a1 _ _
        clear hW3 p0 p1
        have KP3 := Lib.hid kp
        have KF3 := Lib.hid (KF.out.of hbq)
        have HB3 := Lib.hid (HB.out.of hbq)
        have hs3 := Nat.le_trans hs hbq.size
        have hb3 := hb.trans (hbq.mono hb.size)
        have cp := PVar.c KP3.out
        have cf := PVar.c KF3.out
        have lp := KP3.out.lt
        have lf := KF3.out.lt
        clear KF HB hb hs hbq kp
        refine (pref_any px py _).mono ?_
        rintro e W4 ⟨rfl, hn⟩
        have KF4 := Lib.hid (KF3.out.of hn)
        have KP4 := Lib.hid (KP3.out.of hn)
        have HB4 := Lib.hid (HB3.out.of hn)
        have hs4 := Nat.le_trans hs3 hn.size
        have hb4 := hb3.trans (hn.mono hb3.size)
        clear hn hb3 HB3 hs3 KF3 KP3
        clear cp cf lp lf
        go_wp2_with fail
        refine (rR_is px py g' HR2.out _).mono ?_
        rintro e W5 ⟨rfl, hn⟩
        have KF5 := Lib.hid (KF4.out.of hn)
        have KP5 := Lib.hid (KP4.out.of hn)
        have HB5 := Lib.hid (HB4.out.of hn)
        have hs5 := Nat.le_trans hs4 hn.size
        have hb5 := hb4.trans (hn.mono hb4.size)
        clear hn hb4 HB4 hs4 KF4 KP4
        have cp := PVar.c KP5.out
        have cf := PVar.c KF5.out
        have lp := KP5.out.lt
        have lf := KF5.out.lt
        rcases hcao with ⟨rfl, rfl⟩ | ⟨rfl, rfl⟩
        · go_wp2_with fail
          refine wp_region_up W5.heap.size 14 [(true, 0), (true, 1), (true, 2), (true, 4), (true, 5), (true, 6), (true, 7), (true, 8), (true, 9), (true, 10), (true, 11), (true, 13), (false, 3), (false, 12)] (by kernel_rfl) (by kernel_rfl) (fun _ _ d _ _ h => by cases d <;> exact h) ?_
          have hb : Below W5.heap.size W5 W5.drew := (Below.refl _ _).drew
          iterate 12
            first | refine wpS_takeL rfl rfl ?_ | refine wpS_takeB rfl rfl rfl ?_
            first | go_big_quiet_step (rfl) | (go_big_quiet_want; go_big_quiet_op; refine ⟨_, fun _ => rfl, ?_⟩; go_big_quiet_on)
            refine wpQuiet_nil ?_
          refine wpS_doL rfl ?_
          intro K hK
          go_wp2_with (fail)
          try replace hb := hb.trans (hn.mono hb.size)
          refine hK.out _ _ (up_iff.2 hb) ?_
          clear hK K
          try clear hn
          refine wpS_doL rfl ?_
          intro K hK
          go_wp2_with (fail)
          try replace hb := hb.trans (hn.mono hb.size)
          refine hK.out _ _ (up_iff.2 hb) ?_
          clear hK K
          try clear hn
          refine wpS_nil ?_
          simp only [List.drop_succ_cons, List.drop_zero]
          go_wp2_with fail
          refine (pref_any px py _).mono ?_
          rintro e W6 ⟨rfl, hn⟩
          replace hn := hb.trans (hn.mono hb.size)
          clear hb
          have KF6 := Lib.hid (KF5.out.of hn)
          have KP6 := Lib.hid (KP5.out.of hn)
          have HB6 := Lib.hid (HB5.out.of hn)
          have hs6 := Nat.le_trans hs5 hn.size
          have hb6 := hb5.trans (hn.mono hb5.size)
          clear hn hb5 HB5 hs5 KF5 KP5
          clear cp cf lp lf
          go_wp2_with (at_builtin; refine wpList_append_fw rfl _ _ rfl (w.heap.size + 1) _ k X Y px py W6.heap.size rfl rfl ?c0 ?c1 (HB6.out.of ?c2) HX.out.1 HX.out.2 ?c3 ?c4 ?_)
          case c0 => exact (Blk.new W6 _ _).cell 0
          case c1 => exact (Blk.new W6 _ _).cell 1
          case c2 => exact below_a1 _ _
          case c3 => omega
          case c4 => simp; omega
          intro v1 W7 hF hn
          have hbz : Below (w.heap.size + 1) W6 W7 := (below_a1 W6 _ |>.mono hs6).trans hn
          have KFz : Hid (PVar W7 w.heap.size fx fy) := Lib.hid (KF6.out.below hbz (by omega))
          have hbx := hb6.trans (hbz.mono (by omega))
          have hsx := Nat.le_trans hs6 hbz.size
          have HF := Lib.hid hF
          clear hF hn hbz KF6 KP6 HB6 hb6 hs6
          go_wp2_with fail
          go_roundg (n - (k + 1))
          case measure => omega
          case rel => exact ⟨k + 1, g', true, by norm_cast, rfl, rfl, by omega, Nat.le_refl _, HG', HN', KFz, HF, hbx, hsx⟩
        · go_wp2_with fail
          have q := HO.out.atS hb5 hnn
          rw [HQ.out.1, HQ.out.2] at q
          have q0u : ∀ u : UpTo W5.heap.size W5, u.w.cell? (a.add (m * 2)) = some (.int .i64 qx) := fun u => (u.below.cell (World.block_lt_of_cell? _ _ q.1)).trans q.1
          have q1u : ∀ u : UpTo W5.heap.size W5, u.w.cell? { block := (a.add (m * 2)).block, off := (a.add (m * 2)).off + 1 } = some (.int .i64 qy) := fun u => (u.below.cell (World.block_lt_of_cell? _ _ q.2)).trans q.2
          clear q
          refine wp_region_up W5.heap.size 14 [(true, 0), (true, 1), (true, 2), (true, 4), (true, 5), (true, 6), (true, 7), (true, 8), (true, 9), (true, 10), (true, 11), (true, 13), (false, 3), (false, 12)] (by kernel_rfl) (by kernel_rfl) (fun _ _ d _ _ h => by cases d <;> exact h) ?_
          have hb : Below W5.heap.size W5 W5.drew := (Below.refl _ _).drew
          iterate 12
            first | refine wpS_takeL rfl rfl ?_ | refine wpS_takeB rfl rfl rfl ?_
            first | go_big_quiet_step (rfl) | (go_big_quiet_want; go_big_quiet_op; refine ⟨_, fun _ => rfl, ?_⟩; go_big_quiet_on)
            refine wpQuiet_nil ?_
          refine wpS_doL rfl ?_
          intro K hK
          go_wp2_with ((first | (go_at_call 10; (with_reducible refine (pref_any px py _).mono ?_); rintro e w2 ⟨rfl, hn⟩) | (go_at_call 10; (with_reducible refine (pref_any qx qy _).mono ?_); rintro e w2 ⟨rfl, hn⟩) | (go_at_call 10; (with_reducible refine (pref_any fx fy _).mono ?_); rintro e w2 ⟨rfl, hn⟩)))
          try replace hb := hb.trans (hn.mono hb.size)
          refine hK.out _ _ (up_iff.2 hb) ?_
          clear hK K
          try clear hn
          refine wpS_doL rfl ?_
          intro K hK
          go_wp2_with ((first | (go_at_call 10; (with_reducible refine (pref_any px py _).mono ?_); rintro e w2 ⟨rfl, hn⟩) | (go_at_call 10; (with_reducible refine (pref_any qx qy _).mono ?_); rintro e w2 ⟨rfl, hn⟩) | (go_at_call 10; (with_reducible refine (pref_any fx fy _).mono ?_); rintro e w2 ⟨rfl, hn⟩)))
          try replace hb := hb.trans (hn.mono hb.size)
          refine hK.out _ _ (up_iff.2 hb) ?_
          clear hK K
          try clear hn
          refine wpS_nil ?_
          simp only [List.drop_succ_cons, List.drop_zero]
          clear q0u q1u
          have KF6 := Lib.hid (KF5.out.of hb)
          have KP6 := Lib.hid (KP5.out.of hb)
          have HB6 := Lib.hid (HB5.out.of hb)
          have hs6 := Nat.le_trans hs5 hb.size
          have hb6 := hb5.trans (hb.mono hb5.size)
          clear hb hb5 HB5 hs5 KF5 KP5
          clear cp cf lp lf
          have cp := PVar.c KP6.out
          have cf := PVar.c KF6.out
          have lp := KP6.out.lt
          have lf := KF6.out.lt
          go_wp2_with fail
          refine (pref_any fx fy _).mono ?_
          rintro e W7 ⟨rfl, hn⟩
          have KF7 := Lib.hid (KF6.out.of hn)
          have KP7 := Lib.hid (KP6.out.of hn)
          have HB7 := Lib.hid (HB6.out.of hn)
          have hs7 := Nat.le_trans hs6 hn.size
          have hb7 := hb6.trans (hn.mono hb6.size)
          clear hn hb6 HB6 hs6 KF6 KP6
          clear cp cf lp lf
          have cp := PVar.c KP7.out
          have cf := PVar.c KF7.out
          have lp := KP7.out.lt
          have lf := KF7.out.lt
          go_wp2_with fail
          refine (rOn_is px py qx qy fx fy o' HO2.out _).mono ?_
          rintro e W8 ⟨rfl, hn⟩
          have KF8 := Lib.hid (KF7.out.of hn)
          have KP8 := Lib.hid (KP7.out.of hn)
          have HB8 := Lib.hid (HB7.out.of hn)
          have hs8 := Nat.le_trans hs7 hn.size
          have hb8 := hb7.trans (hn.mono hb7.size)
          clear hn hb7 HB7 hs7 KF7 KP7
          clear cp cf lp lf
          have cp := PVar.c KP8.out
          have cf := PVar.c KF8.out
          have lp := KP8.out.lt
          have lf := KF8.out.lt
          go_wp2_with fail
          refine (pref_any px py _).mono ?_
          rintro e W9 ⟨rfl, hn⟩
          have KF9 := Lib.hid (KF8.out.of hn)
          have KP9 := Lib.hid (KP8.out.of hn)
          have HB9 := Lib.hid (HB8.out.of hn)
          have hs9 := Nat.le_trans hs8 hn.size
          have hb9 := hb8.trans (hn.mono hb8.size)
          clear hn hb8 HB8 hs8 KF8 KP8
          clear cp cf lp lf
          go_wp2_with (at_builtin; refine wpList_append_fw rfl _ _ rfl (w.heap.size + 1) _ k X Y px py W9.heap.size rfl rfl ?c0 ?c1 (HB9.out.of ?c2) HX.out.1 HX.out.2 ?c3 ?c4 ?_)
          case c0 => exact (Blk.new W9 _ _).cell 0
          case c1 => exact (Blk.new W9 _ _).cell 1
          case c2 => exact below_a1 _ _
          case c3 => omega
          case c4 => simp; omega
          intro v1 W10 hF hn
          have hbz : Below (w.heap.size + 1) W9 W10 := (below_a1 W9 _ |>.mono hs9).trans hn
          have KFz : Hid (PVar W10 w.heap.size fx fy) := Lib.hid (KF9.out.below hbz (by omega))
          have hbx := hb9.trans (hbz.mono (by omega))
          have hsx := Nat.le_trans hs9 hbz.size
          have HF := Lib.hid hF
          clear hF hn hbz KF9 KP9 HB9 hb9 hs9
          go_wp2_with fail
          go_roundg (n - (k + 1))
          case measure => omega
          case rel => exact ⟨k + 1, g', o', by norm_cast, rfl, rfl, by omega, Nat.le_refl _, HG', HN', KFz, HF, hbx, hsx⟩
    · have hkn : k = n := by omega
      subst hkn
      have hk60 : k ≤ 60 := by omega
      have hgc : (allC k X Y && r) = g := by rw [← allK_allC, Bool.and_comm]; exact HG.out
      have HN2 := HN
      obtain ⟨ao', cap', rfl, hPF⟩ := PF.pts HB.out
      have HPF := Lib.hid hPF
      have HOW := Lib.hid (HO.out.of hb)
      have cf := PVar.c KF.out
      clear hlt hk hg HB hPF HG hs
      cases g
      · go_wp2_with fail
        refine (Winds_no ao k cap X Y fx fy wr HOW.out hk60 _ r rfl HR.out hgc).mono ?_
        rintro e W2 ⟨rfl, hn⟩
        have hb2 := hb.trans (hn.mono hb.size)
        clear hn HPF HOW hb KF cf
        go_wp2_with fail
        refine (pawake_any W2).mono ?_
        rintro e W7 ⟨rfl, hn⟩
        have hb7 := hb2.trans (hn.mono hb2.size)
        clear hn hb2
        go_wp2
        go_ret
        exact ⟨rfl, hb7⟩
      · have hac : allC k X Y = true := by cases h : allC k X Y; · rw [h] at hgc; cases hgc
                                           · rfl
        have hrr : r = true := by rw [hac] at hgc; exact hgc
        subst hrr
        clear hgc
        cases o
        · have hlaw := winds_law k fx fy X Y (fun i hi => allC_rp hac hi) HR.out (onK_false k HN.out)
          have HL := Lib.hid hlaw
          clear hlaw
          go_wp2_with fail
          refine (Winds_go ao k cap X Y fx fy wr HOW.out hk60 hac HR.out false HN.out).mono ?_
          rintro e W2 ⟨rfl, hn⟩
          have HPF2 := Lib.hid (HPF.out.of hn)
          have KF2 := Lib.hid (KF.out.of hn)
          have hb2 := hb.trans (hn.mono hb.size)
          clear hn HPF HOW hb KF cf
          have cf := PVar.c KF2.out
          have lf := KF2.out.lt
          obtain ⟨z, hz⟩ : ∃ z, sumN (wcr k fx fy X Y) k = z := ⟨_, rfl⟩
          have HZ := Lib.hid hz
          simp only [cond_false]
          rw [hz]
          clear hz
          go_wp2_with fail
          refine (pref_any fx fy _).mono ?_
          rintro e W3 ⟨rfl, hn⟩
          have HPF3 := Lib.hid (HPF2.out.of hn)
          have hb3 := hb2.trans (hn.mono hb2.size)
          clear hn HPF2 hb2 KF2 cf lf
          go_wp2_with fail
          refine (rWinds_is ao' k cap' X Y fx fy _ HPF3.out hk60 z (by rw [← HZ.out]; exact HL.out)).mono ?_
          rintro e W4 ⟨rfl, hn⟩
          have hb4 := hb3.trans (hn.mono hb3.size)
          clear hn HPF3 hb3 HL HZ
          go_wp2_with fail
          refine (pawake_any W4).mono ?_
          rintro e W7 ⟨rfl, hn⟩
          have hb7 := hb4.trans (hn.mono hb4.size)
          clear hn hb4
          go_wp2
          go_ret
          exact ⟨rfl, hb7⟩
        · go_wp2_with fail
          refine (Winds_go ao k cap X Y fx fy wr HOW.out hk60 hac HR.out true HN.out).mono ?_
          rintro e W2 ⟨rfl, hn⟩
          have hb2 := hb.trans (hn.mono hb.size)
          clear hn HPF HOW hb KF cf
          simp only [cond_true]
          go_wp2_with fail
          refine (pawake_any W2).mono ?_
          rintro e W7 ⟨rfl, hn⟩
          have hb7 := hb2.trans (hn.mono hb2.size)
          clear hn hb2
          go_wp2
          go_ret
          exact ⟨rfl, hb7⟩
theorem PointWinds_all (ao : Option Addr) (n cap : Nat) (X Y : Nat → Int) (fx fy : Int) (w : World) (h : Pts w ao n cap X Y) (_ : In64 fx) (_ : In64 fy) :
    Calls Try.prog 4 #[.slice ao n cap, pI fx fy] w fun e w' => e = .returned (.bool true) ∧ Below w.heap.size w w' := by
  by_cases hb : 60 < n
  · exact PointWinds_big ao n cap X Y fx fy w h hb
  · exact PointWinds_any ao n cap X Y fx fy w h hb
end Go.Proofs.Ytjboamjfdifjjaa

namespace Go.Proofs.Ytjboamjfdifjjaa
open Go.ChangeShapes Go.WideShapes Go.ChangeAt Go.RowKit

theorem blk_add (a : Addr) (n : Nat) : (a.add n).block = a.block := by unfold Addr.add; split <;> rfl
section
variable {H : Type} {enc : TypeId × Value → H} {w : World} {base : Nat} {held : Bool}
set_option maxRecDepth 100000 in
theorem open_pts {r : Reach} {b0 : Nat} {v : Value} {d : DataW H} {p : List MemPlace} (hv : Value.okWide Try.prog w r b0 22 v) (h : DataW.Trod enc Try.prog w base (fun _ => true) held 22 v d p) :
    ∃ ao n cap X Y, v = .slice ao n cap ∧ Pts w ao n cap X Y := by
  obtain ⟨ao, n, cap, rfl⟩ := okWide_slice Try.underlying22 hv
  obtain ⟨fuel, hf⟩ := h
  have hC : Try.prog.cellsOf 24 = 2 := by kernel_rfl
  have hC1 : Try.prog.cellsOf 3 = 1 := by kernel_rfl
  rcases Go.Deep.open_slice_pairs Try.underlying22 Try.underlying24 hC rfl rfl hC1 hC1 hf with ⟨hc, hx⟩ | ⟨a, len, c2, m, k, V0, V1, D0, D1, P0, P1, hc, _, hl, hm, hmm, hx, hall⟩
  · obtain ⟨rfl, rfl, rfl⟩ : ao = none ∧ n = 0 ∧ cap = 0 := by simpa [Value.cells] using hc
    exact ⟨none, 0, 0, fun _ => 0, fun _ => 0, rfl, fun h => absurd h (by omega), Nat.le_refl _, by omega⟩
  · obtain ⟨rfl, rfl, rfl⟩ : ao = some a ∧ n = len ∧ cap = c2 := by simpa [Value.cells] using hc
    have hmc : m = cap := by rw [hmm]; rfl
    have key : ∀ i, i < n → ∃ y : Int × Int, V0 i = .int .i64 y.1 ∧ V1 i = .int .i64 y.2 := by
      intro i hi
      obtain ⟨_, _, t0, t1⟩ := hall i (by omega)
      obtain ⟨a0, e0, _, g0⟩ := DataW.trod_int Try.underlying3 t0
      obtain ⟨a1, e1, _, g1⟩ := DataW.trod_int Try.underlying3 t1
      exact ⟨(a0, a1), by simpa using e0, by simpa using e1⟩
    refine ⟨some a, n, cap, fun i => if h : i < n then (key i h).choose.1 else 0, fun i => if h : i < n then (key i h).choose.2 else 0, rfl, fun h0 => ⟨a, rfl, ?_, fun i hi => ?_⟩, hl, hm⟩
    · have := (hall 0 (by omega)).1
      have := World.block_lt_of_cell? _ _ this
      rwa [blk_add] at this
    · have e0 := (hall i (by omega)).1
      have e1 := (hall i (by omega)).2.1
      rw [(key i hi).choose_spec.1] at e0
      rw [(key i hi).choose_spec.2] at e1
      simp only [dif_pos hi]
      exact ⟨e0, by rw [Go.Deep.add_add]; exact e1⟩
end
end Go.Proofs.Ytjboamjfdifjjaa

namespace Go.Proofs.Ytjboamjfdifjjaa
open Go.ChangeShapes Go.WideShapes Go.ChangeAt Go.RowKit

set_option maxRecDepth 100000 in
set_option maxHeartbeats 1000000 in
theorem pointWinds_lifted (os : Os) (started : os.Started) (H : Type) (enc : TypeId × Value → H) :
    ReturnsInHanded {} Try.checked os 4 .any (Rows.pointWindsSpec.pre6 enc Try.prog Try.f4 Rows.pointWindsRow.domain false) (Rows.pointWindsSpec.post enc Try.prog Try.f4 false true false false) := by
  refine returnsInHanded_of_change (C := Try.checked) own started (by kernel_rfl) Try.func4
    (ChangeSpec.witness6 (enc := enc) (C := Try.checked) false ⟨#[], #[.slice none 0 0, pI 0 0], []⟩ 8 (by kernel_rfl) (by kernel_rfl) (by kernel_rfl) (by kernel_rfl)) ?_
  intro W base args ds gs before hval0 hW hcnd _
  have hval : ∀ (j : Nat) t v, Try.f4.params[j]? = some t → args[j]? = some v → Value.okWide Try.prog W .any base t v := hval0
  have hW' := hW
  obtain ⟨p, q, hA0, hV, rfl, hfz, hnd⟩ := hW
  have hA : DataW.TrodAll enc Try.prog W 0 (fun _ => true) true Try.f4.params.toList args.toList ds p := hA0
  rw [Try.params4] at hA hval
  obtain ⟨v0, vs0, d0, ds0, p0, q0, hargs, rfl, rfl, h0, r0⟩ := trodAll_cons hA
  obtain ⟨v1, vs1, d1, ds1, p1, q1, rfl, rfl, rfl, h1, r1⟩ := trodAll_cons r0
  obtain ⟨rfl, rfl, rfl⟩ := trodAll_nil r1
  obtain rfl : args = #[v0, v1] := by cases args; simp_all
  obtain ⟨rfl, rfl⟩ := trodVars_none hV
  have k0 := h0
  have lt0 : ∀ x ∈ p0, x.block < W.heap.size := by obtain ⟨m, hm⟩ := k0; exact DataW.trod_lt m _ _ _ hm
  obtain ⟨ao0, n0, cap0, X0, Y0, rfl, io0⟩ := open_pts (hval 0 22 v0 rfl rfl) h0
  have k1 := h1
  have lt1 : ∀ x ∈ p1, x.block < W.heap.size := by obtain ⟨m, hm⟩ := k1; exact DataW.trod_lt m _ _ _ hm
  obtain ⟨x1, y1, ix1, iy1, rfl⟩ := open_point (hval 1 24 v1 rfl rfl) h1
  clear hA0 hval0
  refine (PointWinds_all ao0 n0 cap0 X0 Y0 x1 y1 W io0 ix1 iy1).mono fun e W' ⟨he, bel⟩ => ?_
  subst he
  exact ⟨_, rfl, _, _, _, [], _, [], hW', trodAll_mk1 (shut_bool Try.underlying4 _), (trodAll_cons_mk (Below.trod laidOut (by kernel_rfl) (of_decide_eq_true (by kernel_rfl)) k0 bel lt0) (trodAll_cons_mk (Below.trod laidOut (by kernel_rfl) (of_decide_eq_true (by kernel_rfl)) k1 bel lt1) trodAll_mk0)), rfl, bel.frame _, fun h => by cases h⟩

theorem pointWinds_holds : Rows.PointWindsSaid :=
  OpenClaim.holds_of_wide 4 Try.f4 rfl rfl rfl rfl rfl rfl rfl ⟨rfl, rfl, rfl, rfl, rfl⟩ rfl rfl rfl rfl rfl (by kernel_rfl) Try.func4 (by kernel_rfl)
    (of_decide_eq_true (by kernel_rfl)) (by unfold Func.isWrapper; rw [if_neg (by decide +kernel)]; exact ⟨rfl, rfl⟩)
    (fun os started H enc _ => pointWinds_lifted os started H enc)
#print axioms pointWinds_holds
end Go.Proofs.Ytjboamjfdifjjaa

