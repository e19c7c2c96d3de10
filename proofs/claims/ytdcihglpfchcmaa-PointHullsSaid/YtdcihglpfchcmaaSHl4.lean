/- The statement PointHullsSaid: for every input the law returns true, and its arguments read as before. Conditions: none. -/
import Derived.Test.YtdcihglpfchcmaaSHl3
import Derived.KernelRfl
import Derived.StillTail
import Derived.OrdersHeld
import Derived.Deep.Quiet
import Derived.Below
import Derived.WalkKit
import Derived.Test.YtdcihglpfchcmaaProg
import Derived.WalkSpells
import Derived.StillTactics
import Derived.Laws.Pointers
import Derived.Deep.RegionHeld3
import Derived.RowKit3
import Derived.Deep.QuietTactic
import Derived.BigQuiet
import Derived.BigRegion
import Derived.Lib.Hide
import Derived.WalkSmall
import Derived.Laws.BitsAllLaws
import Derived.IntWalk
import Derived.Deep.OwnRows
import Derived.Deep.LoopGhost
import Derived.Shelf.Bits.Mul64
import Derived.Test.YtdcihglpfchcmaaRows
import Derived.ProofKit
import Derived.OpenShut
import Derived.ShutString
import Derived.ChangeOld
import Derived.Lib.SmallJoins
import Derived.Laws.IdiomArrays
import Derived.Laws.CopyOwn
import Derived.Laws.AppendOwn
import Derived.Deep.DeepAppendRoom
import Derived.Lib.AppendZerosOnto
import Derived.Lib.Overlaps
import Derived.Deep.RegionLaw
import Derived.Shelf.SlSortCmp.WholeK
import Derived.Shelf.SlicesQ.Reverse
import Derived.Sort.LoopGhostIn
import Derived.RangeFuncNested
import Derived.RangeFuncBound
import Derived.RangeFuncCalls
import Derived.RangeFuncLeaves
import Derived.OwnWalk
import Derived.OwnWalkIn
import Derived.TacticsInMore
import Derived.LoopNIn
import Derived.LoopIn
import Derived.Deep.DeepFit
import Derived.Deep.DeepCutAuto
import Derived.Shelf.Abstract
import Derived.Shelf.RegionOpen
import Derived.Maps.OwnIn
import Derived.Deep.SlicePairs
namespace Go.Proofs.Ytdcihglpfchcmaa
open Go.RowKit Go.Shelf

theorem OL.ptsS {w : World} {base n cap : Nat} {ao : Option Addr} {L : List PP} (h : OL w base (.slice ao n cap) L) : Pts w ao n cap (fun i => (gP L i).1) (fun i => (gP L i).2) := by
  obtain ⟨ao', cap', e, hp⟩ := h.pts
  injection e with e1 e2 e3
  rw [e1, e2, e3]; exact hp
theorem OL.rowS {w : World} {base n cap : Nat} {ao : Option Addr} {L : List PP} (h : OL w base (.slice ao n cap) L) (h0 : 0 < n) : ∃ g, ao = some ⟨g, 0, none⟩ ∧ base ≤ g ∧ RowP w g cap n (gP L) := by
  rcases h.row with ⟨e, _⟩ | ⟨g, cap', e, hb, hr⟩
  · injection e with e1 e2 e3
    omega
  · injection e with e1 e2 e3
    rw [e2, e3]; exact ⟨g, e1, hb, hr⟩
/-- are the first k points right ones? -/
def allL (L : List PP) : Nat → Bool
  | 0 => true
  | k + 1 => allL L k && rpP (gP L k)
theorem allL_allC (L : List PP) : ∀ k, allL L k = allC k (fun i => (gP L i).1) (fun i => (gP L i).2)
  | 0 => rfl
  | k + 1 => by
    unfold allC
    rw [List.range_succ, List.all_append]
    show (allL L k && rpP (gP L k)) = ((List.range k).all _ && _)
    rw [allL_allC L k]; simp [allC, rpP, rp]
/-- is one of the first k points this one? -/
def fndL (L : List PP) (x y : Int) : Nat → Bool
  | 0 => false
  | k + 1 => fndL L x y k || eqP (gP L k).1 (gP L k).2 x y
theorem fndL_of {L : List PP} {x y : Int} : ∀ k i, i < k → gP L i = (x, y) → fndL L x y k = true
  | 0, i, h, _ => by omega
  | k + 1, i, h, e => by
    unfold fndL
    rcases Nat.lt_or_ge i k with h1 | h1
    · rw [fndL_of k i h1 e]; rfl
    · obtain rfl : i = k := by omega
      rw [e]
      have : eqP (x, y).1 (x, y).2 x y = true := by unfold eqP; simp
      rw [this, Bool.or_true]
theorem rOn_is (ax ay bx b_y cx cy : Int) (r : Bool) (h : onB ax ay bx b_y cx cy = r) (w : World) :
    Calls Try.prog 10 #[pI ax ay, pI bx b_y, pI cx cy] w fun e w' => e = .returned (.bool r) ∧ Below w.heap.size w w' := h ▸ rOn_any ax ay bx b_y cx cy w
set_option maxRecDepth 100000 in
set_option maxHeartbeats 2000000 in
theorem PointHulls_big (ao : Option Addr) (n cap : Nat) (X Y : Nat → Int) (w : World) (h : Pts w ao n cap X Y) (hbig : 60 < n) :
    Calls Try.prog 3 #[.slice ao n cap] w fun e w' => e = .returned (.bool true) ∧ Below w.heap.size w w' := by
  have hcl := h.capl
  have hcb := h.capb
  clear h
  go_enter Try.func3, Try.ntmps3
  go_wp2_with fail
  refine (pawake_any w).mono ?_
  rintro e W2 ⟨rfl, hb2⟩
  go_wp2
  go_ret
  exact ⟨rfl, hb2⟩
theorem or_case {f e f1 : Bool} (h : (f || e) = f1) : (f = true ∧ f1 = true) ∨ (f = false ∧ e = f1) := by
  subst h; cases f <;> simp
theorem take_succP {L : List PP} {k : Nat} (h : k < L.length) : L.take (k + 1) = L.take k ++ [gP L k] := by
  rw [List.take_add_one, List.getElem?_eq_getElem h]
  show _ ++ [L[k]] = _
  rw [show gP L k = L[k] by unfold gP; rw [List.getD_eq_getElem?_getD, List.getElem?_eq_getElem h]; rfl]
set_option maxRecDepth 100000 in
set_option maxHeartbeats 8000000 in
theorem PointHulls_any (ao : Option Addr) (n cap : Nat) (L : List PP) (hL : L.length = n) (w : World) (h : Pts w ao n cap (fun i => (gP L i).1) (fun i => (gP L i).2)) (hn60 : ¬ 60 < n) :
    Calls Try.prog 3 #[.slice ao n cap] w fun e w' => e = .returned (.bool true) ∧ Below w.heap.size w w' := by
  have hcl := h.capl
  have hcb := h.capb
  have HO := Lib.hid h
  have HN := Lib.hid hL
  clear h hL
  go_enter Try.func3, Try.ntmps3
  go_wp2_with fail
  go_loopg [3, 4, 21] n (fun gk s3 s4 s21 wr => ∃ (k : Nat) (g : Bool), s21 = .int .i64 k ∧ s3 = .bool g ∧ k ≤ n ∧ n - k ≤ gk ∧ Hid (allL L k = g) ∧ Hid (OL wr w.heap.size s4 (L.take k)) ∧ Hid (Below w.heap.size w wr))
  case atStart => exact ⟨0, true, rfl, rfl, Nat.zero_le _, by omega, Lib.hid rfl, Lib.hid (OL.nil _ _), Lib.hid (Below.refl _ _)⟩
  case round =>
    obtain ⟨k, g, rfl, rfl, hk, hg, HG, HL, HB⟩ := hrel
    obtain ⟨wao, wcap, rfl, _⟩ := HL.out.pts
    obtain ⟨tl, htl⟩ : ∃ t, (L.take k).length = t := ⟨_, rfl⟩
    have htk : tl = k := by rw [← htl, List.length_take, HN.out]; omega
    rw [htl] at HL ⊢
    subst htk
    clear htl
    by_cases hlt : tl < n
    · obtain ⟨a, rfl, p0, p1⟩ := HO.out.at HB.out hlt
      obtain ⟨px, hpx⟩ : ∃ x, (gP L tl).1 = x := ⟨_, rfl⟩
      obtain ⟨py, hpy⟩ : ∃ x, (gP L tl).2 = x := ⟨_, rfl⟩
      rw [hpx] at p0
      rw [hpy] at p1
      have HPP : Hid (gP L tl = (px, py)) := Lib.hid (Prod.ext hpx hpy)
      obtain ⟨r, hr⟩ : ∃ r, rp px py = r := ⟨_, rfl⟩
      have hg1 : allL L (tl + 1) = (g && r) := by
        show (allL L tl && rpP (gP L tl)) = _
        rw [HG.out, HPP.out]; unfold rpP; rw [← hr]
      have HR := Lib.hid hr
      have HG1 := Lib.hid hg1
      clear hpx hpy hr hg1 HG
      have HL3 := Lib.hid (HL.out.below (below_a1 wr (.cells #[.int .i64 px, .int .i64 py] 25)))
      cases g
      · have HL4 := HL3
        have HB4 := Lib.hid (HB.out.trans ((below_a1 wr (.cells #[.int .i64 px, .int .i64 py] 25)).mono HB.out.size))
        clear HL HB HL3 HR
        go_wp2_with (at_builtin; go_loud (refine wpList_append_ol rfl _ _ rfl w.heap.size _ (L.take tl) rfl px py _ rfl ?c0 ?c1 (OL.below HL4.out ?c2) ?c3 ?c4 ?_))
        case c0 => exact (Blk.new1 wr _ _ _).cell 0
        case c1 => exact (Blk.new1 wr _ _ _).cell 1
        case c2 => exact below_a1 _ _
        case c3 => rw [List.length_take]; omega
        case c4 => have := HB4.out.size; simp at this ⊢; omega
        intro v1 W5 hF hn
        have hbz : Below w.heap.size (wr.alloc (.cells #[.int .i64 px, .int .i64 py] 25)) W5 := ((below_a1 (wr.alloc (.cells #[.int .i64 px, .int .i64 py] 25)) _).mono (by have := HB4.out.size; omega)).trans ((Below.refl _ _).grown hn (by have := HB4.out.size; simp at this ⊢; omega) (fun j hj => (HL4.out.lt hj).1))
        have HF : Hid (OL W5 w.heap.size v1 (L.take (tl + 1))) := by
          refine Lib.hid ?_
          rw [take_succP (by rw [HN.out]; exact hlt), HPP.out]
          exact hF
        have HB5 := Lib.hid (HB4.out.trans hbz)
        clear hF hn hbz HL4 HB4
        go_wp2_with fail
        go_roundg (n - (tl + 1))
        case measure => omega
        case rel => exact ⟨tl + 1, _, by norm_cast, rfl, by omega, Nat.le_refl _, HG1, HF, HB5⟩
      · go_wp2_with fail
        refine calls_w ?_
        intro W3 hW3
        have kp : PVar W3 wr.heap.size px py := by rw [hW3]; exact Blk.new wr _ _
        have hbq : Below wr.heap.size wr W3 := by rw [hW3]; exact below_a1 _ _
        clear hW3 p0 p1 HL3
        have HL3 := Lib.hid (HL.out.below hbq)
        have HB3 := Lib.hid (HB.out.trans (hbq.mono HB.out.size))
        clear hbq HL HB
        refine (pref_any px py W3).mono ?_
        rintro e W4 ⟨rfl, hn4⟩
        have kp4 := kp.of hn4
        have HL5 := Lib.hid (HL3.out.below hn4)
        have HB6 := Lib.hid (HB3.out.trans (hn4.mono HB3.out.size))
        clear hn4 HL3 HB3 kp
        go_wp2_with fail
        refine (rR_is px py r HR.out W4).mono ?_
        rintro e W6 ⟨rfl, hn4⟩
        have KP4 := Lib.hid (kp4.of hn4)
        have HL4 := Lib.hid (HL5.out.below hn4)
        have HB4 := Lib.hid (HB6.out.trans (hn4.mono HB6.out.size))
        obtain ⟨pb, epb⟩ : ∃ b, wr.heap.size = b := ⟨_, rfl⟩
        rw [epb] at KP4 ⊢
        clear hn4 HL5 HB6 kp4 HR epb
        have kp0 := KP4.out.cell 0
        have kp1 := KP4.out.cell 1
        have lp4 := KP4.out.lt
        simp only [List.getElem?_toArray, List.getElem?_cons_zero, List.getElem?_cons_succ] at kp0 kp1
        go_wp2_with (at_builtin; go_loud (refine wpList_append_ol rfl _ _ rfl w.heap.size _ (L.take tl) rfl px py _ rfl ?c0 ?c1 (OL.below HL4.out ?c2) ?c3 ?c4 ?_))
        case c0 => exact (Blk.new _ _ _).cell 0
        case c1 => exact (Blk.new _ _ _).cell 1
        case c2 => exact below_a1 _ _
        case c3 => rw [List.length_take]; omega
        case c4 => have := HB4.out.size; simp at this ⊢; omega
        intro v1 W5 hF hn
        have hbz : Below w.heap.size W6 W5 := ((below_a1 W6 _).mono (by have := HB4.out.size; omega)).trans ((Below.refl _ _).grown hn (by have := HB4.out.size; simp at this ⊢; omega) (fun j hj => (HL4.out.lt hj).1))
        have HF : Hid (OL W5 w.heap.size v1 (L.take (tl + 1))) := by
          refine Lib.hid ?_
          rw [take_succP (by rw [HN.out]; exact hlt), HPP.out]
          exact hF
        have HB5 := Lib.hid (HB4.out.trans hbz)
        clear hF hn hbz HL4 HB4
        go_wp2_with fail
        go_roundg (n - (tl + 1))
        case measure => omega
        case rel => exact ⟨tl + 1, _, by norm_cast, rfl, by omega, Nat.le_refl _, HG1, HF, HB5⟩
    · have hkn : tl = n := by omega
      subst hkn
      have HG2 : Hid (allC tl (fun i => (gP L i).1) (fun i => (gP L i).2) = g) := Lib.hid (by rw [← allL_allC]; exact HG.out)
      have HL2 : Hid (OL wr w.heap.size (.slice wao tl wcap) L) := Lib.hid (by have := HL.out; rwa [← HN.out, List.take_length, HN.out] at this)
      have HO2 := Lib.hid (HO.out.of HB.out)
      clear HL HG
      cases g
      · clear HL2
        go_wp2_with fail
        refine (Hull_no ao tl cap _ _ wr HO2.out (by omega) HG2.out).mono ?_
        rintro e W2 ⟨rfl, hb2⟩
        have HB2 := Lib.hid (HB.out.trans (hb2.mono HB.out.size))
        clear hb2 HB HO2 HG2
        go_wp2_with fail
        refine (pawake_any _).mono ?_
        rintro e W3 ⟨rfl, hb3⟩
        have HB3 := Lib.hid (HB2.out.trans (hb3.mono HB2.out.size))
        clear hb3 HB2
        go_wp2
        go_ret
        exact ⟨rfl, HB3.out⟩
      · go_wp2_with fail
        refine (Hull_ok ao tl cap L HN.out wr HO2.out (by omega) HG2.out).mono ?_
        rintro e W2 ⟨v, h, rfl, hs, hl200, hol, hb2⟩
        have HRR := Lib.hid (allC_rp (L := L) (by rw [HN.out]; exact HG2.out))
        have HS := Lib.hid hs
        have HB2 := Lib.hid (HB.out.trans (hb2.mono HB.out.size))
        have HO3 := Lib.hid (HO2.out.of hb2)
        have HL3 := Lib.hid (HL2.out.below hb2)
        have HH := Lib.hid hol
        clear hs hol hb2 HB HO2 HL2 HG2
        obtain ⟨hao, hcap, rfl, hpts⟩ := HH.out.pts
        obtain ⟨hl, hhl⟩ : ∃ l, h.length = l := ⟨_, rfl⟩
        have HHL := Lib.hid hhl
        have hnil : hl = 0 ↔ tl = 0 := by have := HS.out.nil; rw [hhl, HN.out] at this; exact this
        rw [hhl] at hl200 hpts HH ⊢
        have hhc := hpts.capl
        have hhb := hpts.capb
        have HHP := Lib.hid hpts
        have HWP := Lib.hid HL3.out.ptsS
        have hwc := HWP.out.capl
        have hwb := HWP.out.capb
        clear hhl hpts
        go_wp2_with fail
        go_loopg [55] tl (fun gk s55 wr => ∃ k : Nat, s55 = .int .i64 k ∧ k ≤ tl ∧ tl - k ≤ gk ∧ Hid (Below W2.heap.size W2 wr))
        case atStart => exact ⟨0, rfl, Nat.zero_le _, by omega, Lib.hid (Below.refl _ _)⟩
        case round =>
          obtain ⟨k, rfl, hk, hg, HBL⟩ := hrel
          by_cases hlt : k < tl
          · obtain ⟨a, rfl, p0, p1⟩ := HO3.out.at HBL.out hlt
            obtain ⟨b, rfl, q0, q1⟩ := HWP.out.at HBL.out hlt
            obtain ⟨px, hpx⟩ : ∃ x, (gP L k).1 = x := ⟨_, rfl⟩
            obtain ⟨py, hpy⟩ : ∃ x, (gP L k).2 = x := ⟨_, rfl⟩
            rw [hpx] at p0 q0
            rw [hpy] at p1 q1
            have p0u : ∀ u : UpTo wr.heap.size wr, u.w.cell? (a.add (k * 2)) = some (.int .i64 px) := fun u => (u.below.cell (World.block_lt_of_cell? _ _ p0)).trans p0
            have p1u : ∀ u : UpTo wr.heap.size wr, u.w.cell? { block := (a.add (k * 2)).block, off := (a.add (k * 2)).off + 1 } = some (.int .i64 py) := fun u => (u.below.cell (World.block_lt_of_cell? _ _ p1)).trans p1
            have q0u : ∀ u : UpTo wr.heap.size wr, u.w.cell? (b.add (k * 2)) = some (.int .i64 px) := fun u => (u.below.cell (World.block_lt_of_cell? _ _ q0)).trans q0
            have q1u : ∀ u : UpTo wr.heap.size wr, u.w.cell? { block := (b.add (k * 2)).block, off := (b.add (k * 2)).off + 1 } = some (.int .i64 py) := fun u => (u.below.cell (World.block_lt_of_cell? _ _ q1)).trans q1
            clear hpx hpy p0 p1 q0 q1
            go_wp2_with fail
            refine wp_region_up wr.heap.size 8 [(true, 0), (true, 1), (true, 2), (true, 3), (true, 4), (true, 5), (true, 6), (true, 7)] (by kernel_rfl) (by kernel_rfl) (fun _ _ d _ _ h => by cases d <;> exact h) ?_
            have hb : Below wr.heap.size wr wr.drew := (Below.refl _ _).drew
            iterate 8
              refine wpS_takeL rfl rfl ?_
              go_big_quiet_step (rfl)
              refine wpQuiet_nil ?_
            refine wpS_nil ?_
            simp only [List.drop_succ_cons, List.drop_zero]
            have HB3 := Lib.hid (HBL.out.trans (hb.mono HBL.out.size))
            clear hb HBL p0u p1u q0u q1u
            go_wp2_with fail
            go_roundg (tl - (k + 1))
            case measure => omega
            case rel => exact ⟨k + 1, by norm_cast, by omega, Nat.le_refl _, HB3⟩
          · have HB3 := Lib.hid (HB2.out.trans (HBL.out.mono HB2.out.size))
            have HO4 := Lib.hid (HO3.out.of HBL.out)
            have HH4 := Lib.hid (HH.out.below HBL.out)
            have hkn : tl = k := by omega
            subst hkn
            clear HO3 HH HBL HB2 HHP HWP HL3 hk hg hlt
            obtain ⟨W8, hW8⟩ : ∃ W, W = wr := ⟨_, rfl⟩
            subst hW8
            by_cases ht0 : tl = 0
            · have hl0 := hnil.2 ht0
              clear hnil
              subst ht0 hl0
              clear HS HRR HH4 HHL HO4 HN
              go_wp2
              refine wp_loop_rounds 1 ?_
              rw [rounds_succ]
              go_wp2_with fail
              refine wp_region_up W8.heap.size 10 [(true, 0), (true, 1), (true, 2), (true, 3), (true, 4), (true, 5), (true, 6), (true, 7), (true, 8), (true, 9)] (by kernel_rfl) (by kernel_rfl) (fun _ _ d _ _ h => by cases d <;> exact h) ?_
              have hb : Below W8.heap.size W8 W8.drew := (Below.refl _ _).drew
              iterate 10
                first | refine wpS_takeL rfl rfl ?_ | refine wpS_takeB rfl rfl rfl ?_
                first | go_big_quiet_step (rfl) | (go_big_quiet_want; go_big_quiet_op; refine ⟨_, fun _ => rfl, ?_⟩; go_big_quiet_on)
                refine wpQuiet_nil ?_
              refine wpS_nil ?_
              simp only [List.drop_succ_cons, List.drop_zero]
              have HB4 := Lib.hid (HB3.out.trans (hb.mono HB3.out.size))
              clear hb HB3
              go_wp2_with fail
              refine (pawake_any _).mono ?_
              rintro e W3 ⟨rfl, hb3⟩
              have HB5 := Lib.hid (HB4.out.trans (hb3.mono HB4.out.size))
              clear hb3 HB4
              go_wp2
              go_ret
              exact ⟨rfl, HB5.out⟩
            · have hh0 : ¬ hl = 0 := fun e => ht0 (hnil.1 e)
              obtain ⟨g, rfl, _, hrow⟩ := HH4.out.rowS (by omega)
              have HROW := Lib.hid hrow
              clear hnil hrow HH4
              have hti : ((tl : Int) == 0) = false := by simp; omega
              have hhi : ((hl : Int) == 0) = false := by simp; omega
              go_wp2_with fail
              go_loopg [81] hl (fun gk s81 wr => ∃ k : Nat, s81 = .int .i64 k ∧ k ≤ hl ∧ hl - k ≤ gk ∧ Hid (Below W8.heap.size W8 wr))
              case atStart => exact ⟨0, rfl, Nat.zero_le _, by omega, Lib.hid (Below.refl _ _)⟩
              case round =>
                obtain ⟨k, rfl, hk, hg, HBL⟩ := hrel
                by_cases hlt : k < hl
                · have hk200 : k < 200 := by omega
                  obtain ⟨m1, hm1⟩ : ∃ m, (k + 1) % hl = m := ⟨_, rfl⟩
                  obtain ⟨m2, hm2⟩ : ∃ m, (k + 2) % hl = m := ⟨_, rfl⟩
                  have hm1l : m1 < hl := by rw [← hm1]; exact Nat.mod_lt _ (by omega)
                  have hm2l : m2 < hl := by rw [← hm2]; exact Nat.mod_lt _ (by omega)
                  have hmod1 : Int.tmod ((k : Int) + 1) (hl : Int) = (m1 : Int) := by
                    rw [Int.tmod_eq_emod_of_nonneg (by omega), ← hm1]; norm_cast
                  have hmod2 : Int.tmod ((k : Int) + 2) (hl : Int) = (m2 : Int) := by
                    rw [Int.tmod_eq_emod_of_nonneg (by omega), ← hm2]; norm_cast
                  obtain ⟨me, hme⟩ : ∃ m, hl = m + 1 := ⟨hl - 1, by omega⟩
                  have hmel : me < hl := by omega
                  have hmei : (hl : Int) - 1 = (me : Int) := by omega
                  obtain ⟨ax, hax⟩ : ∃ x, (gP h k).1 = x := ⟨_, rfl⟩
                  obtain ⟨ay, hay⟩ : ∃ x, (gP h k).2 = x := ⟨_, rfl⟩
                  obtain ⟨bx, hbx⟩ : ∃ x, (gP h m1).1 = x := ⟨_, rfl⟩
                  obtain ⟨b_y, hby⟩ : ∃ x, (gP h m1).2 = x := ⟨_, rfl⟩
                  obtain ⟨cx, hcx⟩ : ∃ x, (gP h m2).1 = x := ⟨_, rfl⟩
                  obtain ⟨cy, hcy⟩ : ∃ x, (gP h m2).2 = x := ⟨_, rfl⟩
                  obtain ⟨zx, hzx⟩ : ∃ x, (gP h 0).1 = x := ⟨_, rfl⟩
                  obtain ⟨zy, hzy⟩ : ∃ x, (gP h 0).2 = x := ⟨_, rfl⟩
                  obtain ⟨yx, hyx⟩ : ∃ x, (gP h me).1 = x := ⟨_, rfl⟩
                  obtain ⟨yy, hyy⟩ : ∃ x, (gP h me).2 = x := ⟨_, rfl⟩
                  -- what the cells of the hull hold, in any world above
                  have HC : Hid (∀ W, Below W8.heap.size W8 W → g < W.heap.size ∧ (W.cell? ⟨g, k * 2, none⟩ = some (.int .i64 ax) ∧ W.cell? ⟨g, k * 2 + 1, none⟩ = some (.int .i64 ay)) ∧ (W.cell? ⟨g, m1 * 2, none⟩ = some (.int .i64 bx) ∧ W.cell? ⟨g, m1 * 2 + 1, none⟩ = some (.int .i64 b_y)) ∧ (W.cell? ⟨g, m2 * 2, none⟩ = some (.int .i64 cx) ∧ W.cell? ⟨g, m2 * 2 + 1, none⟩ = some (.int .i64 cy)) ∧ (W.cell? ⟨g, 0, none⟩ = some (.int .i64 zx) ∧ W.cell? ⟨g, 1, none⟩ = some (.int .i64 zy)) ∧ (W.cell? ⟨g, me * 2, none⟩ = some (.int .i64 yx) ∧ W.cell? ⟨g, me * 2 + 1, none⟩ = some (.int .i64 yy))) := Lib.hid fun W hW => by
                    have r := HROW.out.below hW
                    have c0 := r.cell (k := 0) (by omega)
                    rw [Nat.zero_mul, Nat.zero_add, hzx, hzy] at c0
                    have c1 := r.cell hlt
                    have c2 := r.cell hm1l
                    have c3 := r.cell hm2l
                    have c4 := r.cell hmel
                    rw [hax, hay] at c1
                    rw [hbx, hby] at c2
                    rw [hcx, hcy] at c3
                    rw [hyx, hyy] at c4
                    exact ⟨r.lt, c1, c2, c3, c0, c4⟩
                  have HWY : Hid (∀ p, p ∈ L → 0 ≤ way ax ay bx b_y p.1 p.2) := Lib.hid fun p hp => by
                    have := HS.out.wy k (by rw [HHL.out]; exact hlt) p hp
                    rw [HHL.out, hm1] at this
                    unfold wyP at this
                    rwa [hax, hay, hbx, hby] at this
                  have HAH : Hid (∀ p, p ∈ L → ahd p.1 p.2 zx zy = false) := Lib.hid fun p hp => by
                    have := HS.out.fst (by rw [HHL.out]; omega) p hp
                    unfold ahP at this
                    rwa [hzx, hzy] at this
                  have HON : Hid (hl ≤ 2 → ∀ p, p ∈ L → onB zx zy yx yy p.1 p.2 = true) := Lib.hid fun h2 p hp => by
                    have := HS.out.on (by rw [HHL.out]; exact h2) (by rw [HHL.out]; omega) p hp
                    rw [HHL.out, show hl - 1 = me by omega, hzx, hzy, hyx, hyy] at this
                    exact this
                  have HTU : Hid (2 < hl → 0 < way ax ay bx b_y cx cy) := Lib.hid fun h2 => by
                    have := HS.out.turn (by rw [HHL.out]; exact h2) k (by rw [HHL.out]; exact hlt)
                    rw [HHL.out, hm1, hm2] at this
                    unfold wyP at this
                    rwa [hax, hay, hbx, hby, hcx, hcy] at this
                  have HFN : Hid (fndL L ax ay tl = true) := Lib.hid (by
                    obtain ⟨i, hi⟩ := List.mem_iff_getElem?.1 (HS.out.mem k (by rw [HHL.out]; exact hlt))
                    have hil := (List.getElem?_eq_some_iff.1 hi).1
                    refine fndL_of tl i (by rw [← HN.out]; exact hil) ?_
                    have : gP L i = gP h k := by
                      show L.getD i (0, 0) = _
                      rw [List.getD_eq_getElem?_getD, hi]; rfl
                    rw [this]; exact Prod.ext hax hay)
                  clear hax hay hbx hby hcx hcy hzx hzy hyx hyy hm1 hm2 hme
                  have HBW := Lib.hid HBL.out
                  obtain ⟨g0, ⟨p0, p1⟩, _⟩ := HC.out wr HBL.out
                  go_wp2_with fail
                  refine name_world ?_
                  intro W3 hW3
                  have kp : PVar W3 wr.heap.size ax ay := by rw [hW3]; exact Blk.new wr _ _
                  have hbq : Below wr.heap.size wr W3 := by rw [hW3]; exact below_a1 _ _
                  clear hW3 p0 p1 g0
                  have KA3 := Lib.hid kp
                  have HB4 := Lib.hid (HBL.out.trans (hbq.mono HBL.out.size))
                  obtain ⟨ab, eab⟩ : ∃ b, wr.heap.size = b := ⟨_, rfl⟩
                  rw [eab] at KA3 ⊢
                  clear kp hbq HBL HBW eab
                  go_wp2_with fail
                  go_loopg [12, 88] tl (fun gk2 s12 s88 wr => ∃ (j : Nat) (f : Bool), s88 = .int .i64 j ∧ s12 = .bool f ∧ j ≤ tl ∧ tl - j ≤ gk2 ∧ Hid (fndL L ax ay j = f) ∧ Hid (PVar wr ab ax ay) ∧ Hid (Below W8.heap.size W8 wr))
                  case atStart => exact ⟨0, false, rfl, rfl, Nat.zero_le _, by omega, Lib.hid rfl, KA3, HB4⟩
                  case round =>
                    clear KA3 HB4
                    obtain ⟨j, f, rfl, rfl, hj, hg2, HF, KA, HB⟩ := hrel
                    by_cases hlt2 : j < tl
                    · obtain ⟨a, rfl, p0, p1⟩ := HO4.out.at HB.out hlt2
                      obtain ⟨px, hpx⟩ : ∃ x, (gP L j).1 = x := ⟨_, rfl⟩
                      obtain ⟨py, hpy⟩ : ∃ x, (gP L j).2 = x := ⟨_, rfl⟩
                      have hpm : (px, py) ∈ L := by
                        have := gP_mem (L := L) (i := j) (by rw [HN.out]; exact hlt2)
                        rwa [show gP L j = (px, py) from Prod.ext hpx hpy] at this
                      obtain ⟨r, hr⟩ : ∃ r, way ax ay bx b_y px py = r := ⟨_, rfl⟩
                      have hr0 : decide (r < 0) = false := by have := HWY.out _ hpm; rw [hr] at this; exact decide_eq_false (by omega)
                      have HRW := Lib.hid hr
                      have HAP := Lib.hid (HAH.out _ hpm)
                      have HOP := Lib.hid (fun h2 => HON.out h2 _ hpm)
                      obtain ⟨e, he⟩ : ∃ e, eqP px py ax ay = e := ⟨_, rfl⟩
                      have hf1 : fndL L ax ay (j + 1) = (f || e) := by
                        show (fndL L ax ay j || eqP (gP L j).1 (gP L j).2 ax ay) = _
                        rw [HF.out, hpx, hpy, he]
                      have HF1 := Lib.hid hf1
                      rw [hpx] at p0
                      rw [hpy] at p1
                      have KA4 := Lib.hid (KA.out.of (below_a1 wr (.cells #[.int .i64 px, .int .i64 py] 25)))
                      have lka := KA.out.lt
                      have ca := PVar.c KA.out
                      clear hpx hpy hpm hr hf1 HF
                      obtain ⟨f1, e1⟩ : ∃ f1, (f || e) = f1 := ⟨_, rfl⟩
                      rw [e1] at HF1
                      have hc := or_case e1
                      clear e1
                      rcases hc with ⟨rfl, rfl⟩ | ⟨rfl, rfl⟩
                      · go_wp2_with fail
                        refine name_world ?_
                        intro W5 hW5
                        have KP5 : Hid (PVar W5 wr.heap.size px py) := by rw [hW5]; exact Lib.hid (Blk.new wr _ _)
                        have hbq : Below wr.heap.size wr W5 := by rw [hW5]; exact below_a1 _ _
                        have KA5 := Lib.hid (KA.out.of hbq)
                        have HB5 := Lib.hid (HB.out.trans (hbq.mono HB.out.size))
                        obtain ⟨pb, epb⟩ : ∃ b, wr.heap.size = b := ⟨_, rfl⟩
                        rw [epb] at KP5 ⊢
                        clear hW5 hbq p0 p1 KA4 lka ca KA HB epb he
                        have HC5 := HC.out W5 HB5.out
                        obtain ⟨lg, ⟨q0, q1⟩, ⟨q2, q3⟩, ⟨q4, q5⟩, ⟨q6, q7⟩, q8, q9⟩ := HC5
                        have cp := PVar.c KP5.out
                        have ca := PVar.c KA5.out
                        have lp := KP5.out.lt
                        have la := KA5.out.lt
                        go_wp2_with fail
                        refine wp_region_up W5.heap.size 21 [(true, 0), (true, 2), (true, 3), (true, 4), (true, 5), (true, 6), (true, 7), (true, 8), (true, 9), (true, 11), (false, 1), (false, 10), (false, 12), (false, 13), (true, 14), (true, 15), (true, 16), (true, 18), (true, 19), (true, 20), (false, 17)] (by kernel_rfl) (by kernel_rfl) (fun _ _ d _ _ h => by cases d <;> exact h) ?_
                        have hb : Below W5.heap.size W5 W5.drew := (Below.refl _ _).drew
                        iterate 10
                          first | refine wpS_takeL rfl rfl ?_ | refine wpS_takeB rfl rfl rfl ?_
                          first | go_big_quiet_step (rfl) | (go_big_quiet_want; go_big_quiet_op; refine ⟨_, fun _ => rfl, ?_⟩; go_big_quiet_on)
                          refine wpQuiet_nil ?_
                        refine wpS_doL rfl ?_
                        intro K hK
                        go_wp2_with ((first | (go_at_call 6; (with_reducible refine (pref_any px py _).mono ?_); rintro e w2 ⟨rfl, hn⟩) | (go_at_call 6; (with_reducible refine (pref_any ax ay _).mono ?_); rintro e w2 ⟨rfl, hn⟩) | (go_at_call 6; (with_reducible refine (pref_any bx b_y _).mono ?_); rintro e w2 ⟨rfl, hn⟩) | (go_at_call 6; (with_reducible refine (pref_any zx zy _).mono ?_); rintro e w2 ⟨rfl, hn⟩)))
                        replace hb := hb.trans (hn.mono hb.size)
                        refine hK.out _ _ (up_iff.2 hb) ?_
                        clear hK K
                        clear hn
                        refine wpS_doL rfl ?_
                        intro K hK
                        go_wp2_with ((first | (go_at_call 6; (with_reducible refine (pref_any px py _).mono ?_); rintro e w2 ⟨rfl, hn⟩) | (go_at_call 6; (with_reducible refine (pref_any ax ay _).mono ?_); rintro e w2 ⟨rfl, hn⟩) | (go_at_call 6; (with_reducible refine (pref_any bx b_y _).mono ?_); rintro e w2 ⟨rfl, hn⟩) | (go_at_call 6; (with_reducible refine (pref_any zx zy _).mono ?_); rintro e w2 ⟨rfl, hn⟩)))
                        replace hb := hb.trans (hn.mono hb.size)
                        refine hK.out _ _ (up_iff.2 hb) ?_
                        clear hK K
                        clear hn
                        refine wpS_doL rfl ?_
                        intro K hK
                        go_wp2_with ((first | (go_at_call 6; (with_reducible refine (pref_any px py _).mono ?_); rintro e w2 ⟨rfl, hn⟩) | (go_at_call 6; (with_reducible refine (pref_any ax ay _).mono ?_); rintro e w2 ⟨rfl, hn⟩) | (go_at_call 6; (with_reducible refine (pref_any bx b_y _).mono ?_); rintro e w2 ⟨rfl, hn⟩) | (go_at_call 6; (with_reducible refine (pref_any zx zy _).mono ?_); rintro e w2 ⟨rfl, hn⟩)))
                        replace hb := hb.trans (hn.mono hb.size)
                        refine hK.out _ _ (up_iff.2 hb) ?_
                        clear hK K
                        clear hn
                        refine wpS_doL rfl ?_
                        intro K hK
                        go_wp2_with ((go_at_call 8; (with_reducible refine (rWay_is ax ay bx b_y px py r HRW.out _).mono ?_); rintro e w2 ⟨rfl, hn⟩))
                        replace hb := hb.trans (hn.mono hb.size)
                        refine hK.out _ _ (up_iff.2 hb) ?_
                        clear hK K
                        clear hn
                        iterate 6
                          first | refine wpS_takeL rfl rfl ?_ | refine wpS_takeB rfl rfl rfl ?_
                          first | go_big_quiet_step (rfl) | (go_big_quiet_want; go_big_quiet_op; refine ⟨_, fun _ => rfl, ?_⟩; go_big_quiet_on)
                          refine wpQuiet_nil ?_
                        refine wpS_doL rfl ?_
                        intro K hK
                        go_wp2_with ((first | (go_at_call 6; (with_reducible refine (pref_any px py _).mono ?_); rintro e w2 ⟨rfl, hn⟩) | (go_at_call 6; (with_reducible refine (pref_any ax ay _).mono ?_); rintro e w2 ⟨rfl, hn⟩) | (go_at_call 6; (with_reducible refine (pref_any bx b_y _).mono ?_); rintro e w2 ⟨rfl, hn⟩) | (go_at_call 6; (with_reducible refine (pref_any zx zy _).mono ?_); rintro e w2 ⟨rfl, hn⟩)))
                        try replace hb := hb.trans (hn.mono hb.size)
                        refine hK.out _ _ (up_iff.2 hb) ?_
                        clear hK K
                        try clear hn
                        refine wpS_nil ?_
                        simp only [List.drop_succ_cons, List.drop_zero]
                        have KP6 := Lib.hid (KP5.out.of hb)
                        have KA6 := Lib.hid (KA5.out.of hb)
                        have HB6 := Lib.hid (HB5.out.trans (hb.mono HB5.out.size))
                        clear hb cp ca lp la lg q0 q1 q2 q3 q4 q5 q6 q7 q8 q9 KP5 KA5 HB5
                        go_wp2_with fail
                        refine (pref_any zx zy _).mono ?_
                        rintro e W6 ⟨rfl, hn⟩
                        have KP7 := Lib.hid (KP6.out.of hn)
                        have KA7 := Lib.hid (KA6.out.of hn)
                        have HB7 := Lib.hid (HB6.out.trans (hn.mono HB6.out.size))
                        clear hn KP6 KA6 HB6
                        go_wp2_with fail
                        refine (rAhead_is px py zx zy false HAP.out _).mono ?_
                        rintro e W7 ⟨rfl, hn⟩
                        have KP8 := Lib.hid (KP7.out.of hn)
                        have KA8 := Lib.hid (KA7.out.of hn)
                        have HB8 := Lib.hid (HB7.out.trans (hn.mono HB7.out.size))
                        clear hn KP7 KA7 HB7
                        have HC7 := HC.out W7 HB8.out
                        obtain ⟨lg, _, _, _, ⟨q6, q7⟩, q8, q9⟩ := HC7
                        have cp := PVar.c KP8.out
                        have ca := PVar.c KA8.out
                        have lp := KP8.out.lt
                        have la := KA8.out.lt
                        by_cases h2 : hl ≤ 2
                        · have h2i : decide ((hl : Int) ≤ 2) = true := decide_eq_true (by omega)
                          go_wp2_with fail
                          refine wp_region_up W7.heap.size 16 [(true, 0), (true, 1), (true, 2), (true, 3), (true, 4), (true, 5), (true, 6), (true, 8), (true, 9), (true, 10), (true, 11), (true, 12), (true, 13), (true, 15), (false, 7), (false, 14)] (by kernel_rfl) (by kernel_rfl) (fun _ _ d _ _ h => by cases d <;> exact h) ?_
                          have hb : Below W7.heap.size W7 W7.drew := (Below.refl _ _).drew
                          iterate 14
                            first | refine wpS_takeL rfl rfl ?_ | refine wpS_takeB rfl rfl rfl ?_
                            first | go_big_quiet_step (rfl) | (go_big_quiet_want; go_big_quiet_op; refine ⟨_, fun _ => rfl, ?_⟩; go_big_quiet_on)
                            refine wpQuiet_nil ?_
                          refine wpS_doL rfl ?_
                          intro K hK
                          go_wp2_with ((first | (go_at_call 6; (with_reducible refine (pref_any px py _).mono ?_); rintro e w2 ⟨rfl, hn⟩) | (go_at_call 6; (with_reducible refine (pref_any yx yy _).mono ?_); rintro e w2 ⟨rfl, hn⟩) | (go_at_call 6; (with_reducible refine (pref_any zx zy _).mono ?_); rintro e w2 ⟨rfl, hn⟩)))
                          try replace hb := hb.trans (hn.mono hb.size)
                          refine hK.out _ _ (up_iff.2 hb) ?_
                          clear hK K
                          try clear hn
                          refine wpS_doL rfl ?_
                          intro K hK
                          go_wp2_with ((first | (go_at_call 6; (with_reducible refine (pref_any px py _).mono ?_); rintro e w2 ⟨rfl, hn⟩) | (go_at_call 6; (with_reducible refine (pref_any yx yy _).mono ?_); rintro e w2 ⟨rfl, hn⟩) | (go_at_call 6; (with_reducible refine (pref_any zx zy _).mono ?_); rintro e w2 ⟨rfl, hn⟩)))
                          try replace hb := hb.trans (hn.mono hb.size)
                          refine hK.out _ _ (up_iff.2 hb) ?_
                          clear hK K
                          try clear hn
                          refine wpS_nil ?_
                          simp only [List.drop_succ_cons, List.drop_zero]
                          have KP9 := Lib.hid (KP8.out.of hb)
                          have KA9 := Lib.hid (KA8.out.of hb)
                          have HB9 := Lib.hid (HB8.out.trans (hb.mono HB8.out.size))
                          clear hb cp ca lp la lg q6 q7 q8 q9 KP8 KA8 HB8
                          have cp := PVar.c KP9.out
                          have lp := KP9.out.lt
                          go_wp2_with fail
                          refine (pref_any px py _).mono ?_
                          rintro e W10 ⟨rfl, hn⟩
                          have KA10 := Lib.hid (KA9.out.of hn)
                          have HB10 := Lib.hid (HB9.out.trans (hn.mono HB9.out.size))
                          clear hn KP9 KA9 HB9 cp lp
                          go_wp2_with fail
                          refine (rOn_is zx zy yx yy px py true (HOP.out h2) _).mono ?_
                          rintro e W11 ⟨rfl, hn⟩
                          have KA11 := Lib.hid (KA10.out.of hn)
                          have HB11 := Lib.hid (HB10.out.trans (hn.mono HB10.out.size))
                          clear hn KA10 HB10
                          go_wp2_with fail
                          go_roundg (tl - (j + 1))
                          case measure => omega
                          case rel => exact ⟨j + 1, _, by norm_cast, rfl, by omega, Nat.le_refl _, HF1, KA11, HB11⟩
                        · have h2i : decide ((hl : Int) ≤ 2) = false := decide_eq_false (by omega)
                          go_wp2_with fail
                          refine wp_region_up W7.heap.size 16 [(true, 0), (true, 1), (true, 2), (true, 3), (true, 4), (true, 5), (true, 6), (true, 8), (true, 9), (true, 10), (true, 11), (true, 12), (true, 13), (true, 15), (false, 7), (false, 14)] (by kernel_rfl) (by kernel_rfl) (fun _ _ d _ _ h => by cases d <;> exact h) ?_
                          have hb : Below W7.heap.size W7 W7.drew := (Below.refl _ _).drew
                          iterate 14
                            first | refine wpS_takeL rfl rfl ?_ | refine wpS_takeB rfl rfl rfl ?_
                            first | go_big_quiet_step (rfl) | (go_big_quiet_want; go_big_quiet_op; refine ⟨_, fun _ => rfl, ?_⟩; go_big_quiet_on)
                            refine wpQuiet_nil ?_
                          refine wpS_doL rfl ?_
                          intro K hK
                          go_wp2_with (fail)
                          try replace hb := hb.trans (hn.mono hb.size)
                          refine hK.out _ _ (up_iff.2 hb) ?_
                          clear hK K
                          try clear hn
                          refine wpS_doL rfl ?_
                          intro K hK
                          go_wp2_with (fail)
                          try replace hb := hb.trans (hn.mono hb.size)
                          refine hK.out _ _ (up_iff.2 hb) ?_
                          clear hK K
                          try clear hn
                          refine wpS_nil ?_
                          simp only [List.drop_succ_cons, List.drop_zero]
                          have KA9 := Lib.hid (KA8.out.of hb)
                          have HB9 := Lib.hid (HB8.out.trans (hb.mono HB8.out.size))
                          clear hb cp ca lp la lg q6 q7 q8 q9 KP8 KA8 HB8
                          go_wp2_with fail
                          go_roundg (tl - (j + 1))
                          case measure => omega
                          case rel => exact ⟨j + 1, _, by norm_cast, rfl, by omega, Nat.le_refl _, HF1, KA9, HB9⟩
                      · rcases eqP_cases he with ⟨rfl, rfl, rfl⟩ | ⟨hne, rfl⟩ | ⟨rfl, hne, rfl⟩
                        · go_wp2_with fail
                          refine name_world ?_
                          intro W5 hW5
                          have KP5 : Hid (PVar W5 wr.heap.size px py) := by rw [hW5]; exact Lib.hid (Blk.new wr _ _)
                          have hbq : Below wr.heap.size wr W5 := by rw [hW5]; exact below_a1 _ _
                          have KA5 := Lib.hid (KA.out.of hbq)
                          have HB5 := Lib.hid (HB.out.trans (hbq.mono HB.out.size))
                          obtain ⟨pb, epb⟩ : ∃ b, wr.heap.size = b := ⟨_, rfl⟩
                          rw [epb] at KP5 ⊢
                          clear hW5 hbq p0 p1 KA4 lka ca KA HB epb he
                          have HC5 := HC.out W5 HB5.out
                          obtain ⟨lg, ⟨q0, q1⟩, ⟨q2, q3⟩, ⟨q4, q5⟩, ⟨q6, q7⟩, q8, q9⟩ := HC5
                          have cp := PVar.c KP5.out
                          have ca := PVar.c KA5.out
                          have lp := KP5.out.lt
                          have la := KA5.out.lt
                          go_wp2_with fail
                          refine wp_region_up W5.heap.size 21 [(true, 0), (true, 2), (true, 3), (true, 4), (true, 5), (true, 6), (true, 7), (true, 8), (true, 9), (true, 11), (false, 1), (false, 10), (false, 12), (false, 13), (true, 14), (true, 15), (true, 16), (true, 18), (true, 19), (true, 20), (false, 17)] (by kernel_rfl) (by kernel_rfl) (fun _ _ d _ _ h => by cases d <;> exact h) ?_
                          have hb : Below W5.heap.size W5 W5.drew := (Below.refl _ _).drew
                          iterate 10
                            first | refine wpS_takeL rfl rfl ?_ | refine wpS_takeB rfl rfl rfl ?_
                            first | go_big_quiet_step (rfl) | (go_big_quiet_want; go_big_quiet_op; refine ⟨_, fun _ => rfl, ?_⟩; go_big_quiet_on)
                            refine wpQuiet_nil ?_
                          refine wpS_doL rfl ?_
                          intro K hK
                          go_wp2_with ((first | (go_at_call 6; (with_reducible refine (pref_any px py _).mono ?_); rintro e w2 ⟨rfl, hn⟩) | (go_at_call 6; (with_reducible refine (pref_any bx b_y _).mono ?_); rintro e w2 ⟨rfl, hn⟩) | (go_at_call 6; (with_reducible refine (pref_any zx zy _).mono ?_); rintro e w2 ⟨rfl, hn⟩)))
                          replace hb := hb.trans (hn.mono hb.size)
                          refine hK.out _ _ (up_iff.2 hb) ?_
                          clear hK K
                          clear hn
                          refine wpS_doL rfl ?_
                          intro K hK
                          go_wp2_with ((first | (go_at_call 6; (with_reducible refine (pref_any px py _).mono ?_); rintro e w2 ⟨rfl, hn⟩) | (go_at_call 6; (with_reducible refine (pref_any bx b_y _).mono ?_); rintro e w2 ⟨rfl, hn⟩) | (go_at_call 6; (with_reducible refine (pref_any zx zy _).mono ?_); rintro e w2 ⟨rfl, hn⟩)))
                          replace hb := hb.trans (hn.mono hb.size)
                          refine hK.out _ _ (up_iff.2 hb) ?_
                          clear hK K
                          clear hn
                          refine wpS_doL rfl ?_
                          intro K hK
                          go_wp2_with ((first | (go_at_call 6; (with_reducible refine (pref_any px py _).mono ?_); rintro e w2 ⟨rfl, hn⟩) | (go_at_call 6; (with_reducible refine (pref_any bx b_y _).mono ?_); rintro e w2 ⟨rfl, hn⟩) | (go_at_call 6; (with_reducible refine (pref_any zx zy _).mono ?_); rintro e w2 ⟨rfl, hn⟩)))
                          replace hb := hb.trans (hn.mono hb.size)
                          refine hK.out _ _ (up_iff.2 hb) ?_
                          clear hK K
                          clear hn
                          refine wpS_doL rfl ?_
                          intro K hK
                          go_wp2_with ((go_at_call 8; (with_reducible refine (rWay_is px py bx b_y px py r HRW.out _).mono ?_); rintro e w2 ⟨rfl, hn⟩))
                          replace hb := hb.trans (hn.mono hb.size)
                          refine hK.out _ _ (up_iff.2 hb) ?_
                          clear hK K
                          clear hn
                          iterate 6
                            first | refine wpS_takeL rfl rfl ?_ | refine wpS_takeB rfl rfl rfl ?_
                            first | go_big_quiet_step (rfl) | (go_big_quiet_want; go_big_quiet_op; refine ⟨_, fun _ => rfl, ?_⟩; go_big_quiet_on)
                            refine wpQuiet_nil ?_
                          refine wpS_doL rfl ?_
                          intro K hK
                          go_wp2_with ((first | (go_at_call 6; (with_reducible refine (pref_any px py _).mono ?_); rintro e w2 ⟨rfl, hn⟩) | (go_at_call 6; (with_reducible refine (pref_any bx b_y _).mono ?_); rintro e w2 ⟨rfl, hn⟩) | (go_at_call 6; (with_reducible refine (pref_any zx zy _).mono ?_); rintro e w2 ⟨rfl, hn⟩)))
                          try replace hb := hb.trans (hn.mono hb.size)
                          refine hK.out _ _ (up_iff.2 hb) ?_
                          clear hK K
                          try clear hn
                          refine wpS_nil ?_
                          simp only [List.drop_succ_cons, List.drop_zero]
                          have KP6 := Lib.hid (KP5.out.of hb)
                          have KA6 := Lib.hid (KA5.out.of hb)
                          have HB6 := Lib.hid (HB5.out.trans (hb.mono HB5.out.size))
                          clear hb cp ca lp la lg q0 q1 q2 q3 q4 q5 q6 q7 q8 q9 KP5 KA5 HB5
                          go_wp2_with fail
                          refine (pref_any zx zy _).mono ?_
                          rintro e W6 ⟨rfl, hn⟩
                          have KP7 := Lib.hid (KP6.out.of hn)
                          have KA7 := Lib.hid (KA6.out.of hn)
                          have HB7 := Lib.hid (HB6.out.trans (hn.mono HB6.out.size))
                          clear hn KP6 KA6 HB6
                          go_wp2_with fail
                          refine (rAhead_is px py zx zy false HAP.out _).mono ?_
                          rintro e W7 ⟨rfl, hn⟩
                          have KP8 := Lib.hid (KP7.out.of hn)
                          have KA8 := Lib.hid (KA7.out.of hn)
                          have HB8 := Lib.hid (HB7.out.trans (hn.mono HB7.out.size))
                          clear hn KP7 KA7 HB7
                          have HC7 := HC.out W7 HB8.out
                          obtain ⟨lg, _, _, _, ⟨q6, q7⟩, q8, q9⟩ := HC7
                          have cp := PVar.c KP8.out
                          have ca := PVar.c KA8.out
                          have lp := KP8.out.lt
                          have la := KA8.out.lt
                          by_cases h2 : hl ≤ 2
                          · have h2i : decide ((hl : Int) ≤ 2) = true := decide_eq_true (by omega)
                            go_wp2_with fail
                            refine wp_region_up W7.heap.size 16 [(true, 0), (true, 1), (true, 2), (true, 3), (true, 4), (true, 5), (true, 6), (true, 8), (true, 9), (true, 10), (true, 11), (true, 12), (true, 13), (true, 15), (false, 7), (false, 14)] (by kernel_rfl) (by kernel_rfl) (fun _ _ d _ _ h => by cases d <;> exact h) ?_
                            have hb : Below W7.heap.size W7 W7.drew := (Below.refl _ _).drew
                            iterate 14
                              first | refine wpS_takeL rfl rfl ?_ | refine wpS_takeB rfl rfl rfl ?_
                              first | go_big_quiet_step (rfl) | (go_big_quiet_want; go_big_quiet_op; refine ⟨_, fun _ => rfl, ?_⟩; go_big_quiet_on)
                              refine wpQuiet_nil ?_
                            refine wpS_doL rfl ?_
                            intro K hK
                            go_wp2_with ((first | (go_at_call 6; (with_reducible refine (pref_any px py _).mono ?_); rintro e w2 ⟨rfl, hn⟩) | (go_at_call 6; (with_reducible refine (pref_any yx yy _).mono ?_); rintro e w2 ⟨rfl, hn⟩) | (go_at_call 6; (with_reducible refine (pref_any zx zy _).mono ?_); rintro e w2 ⟨rfl, hn⟩)))
                            try replace hb := hb.trans (hn.mono hb.size)
                            refine hK.out _ _ (up_iff.2 hb) ?_
                            clear hK K
                            try clear hn
                            refine wpS_doL rfl ?_
                            intro K hK
                            go_wp2_with ((first | (go_at_call 6; (with_reducible refine (pref_any px py _).mono ?_); rintro e w2 ⟨rfl, hn⟩) | (go_at_call 6; (with_reducible refine (pref_any yx yy _).mono ?_); rintro e w2 ⟨rfl, hn⟩) | (go_at_call 6; (with_reducible refine (pref_any zx zy _).mono ?_); rintro e w2 ⟨rfl, hn⟩)))
                            try replace hb := hb.trans (hn.mono hb.size)
                            refine hK.out _ _ (up_iff.2 hb) ?_
                            clear hK K
                            try clear hn
                            refine wpS_nil ?_
                            simp only [List.drop_succ_cons, List.drop_zero]
                            have KP9 := Lib.hid (KP8.out.of hb)
                            have KA9 := Lib.hid (KA8.out.of hb)
                            have HB9 := Lib.hid (HB8.out.trans (hb.mono HB8.out.size))
                            clear hb cp ca lp la lg q6 q7 q8 q9 KP8 KA8 HB8
                            have cp := PVar.c KP9.out
                            have lp := KP9.out.lt
                            go_wp2_with fail
                            refine (pref_any px py _).mono ?_
                            rintro e W10 ⟨rfl, hn⟩
                            have KA10 := Lib.hid (KA9.out.of hn)
                            have HB10 := Lib.hid (HB9.out.trans (hn.mono HB9.out.size))
                            clear hn KP9 KA9 HB9 cp lp
                            go_wp2_with fail
                            refine (rOn_is zx zy yx yy px py true (HOP.out h2) _).mono ?_
                            rintro e W11 ⟨rfl, hn⟩
                            have KA11 := Lib.hid (KA10.out.of hn)
                            have HB11 := Lib.hid (HB10.out.trans (hn.mono HB10.out.size))
                            clear hn KA10 HB10
                            go_wp2_with fail
                            go_roundg (tl - (j + 1))
                            case measure => omega
                            case rel => exact ⟨j + 1, _, by norm_cast, rfl, by omega, Nat.le_refl _, HF1, KA11, HB11⟩
                          · have h2i : decide ((hl : Int) ≤ 2) = false := decide_eq_false (by omega)
                            go_wp2_with fail
                            refine wp_region_up W7.heap.size 16 [(true, 0), (true, 1), (true, 2), (true, 3), (true, 4), (true, 5), (true, 6), (true, 8), (true, 9), (true, 10), (true, 11), (true, 12), (true, 13), (true, 15), (false, 7), (false, 14)] (by kernel_rfl) (by kernel_rfl) (fun _ _ d _ _ h => by cases d <;> exact h) ?_
                            have hb : Below W7.heap.size W7 W7.drew := (Below.refl _ _).drew
                            iterate 14
                              first | refine wpS_takeL rfl rfl ?_ | refine wpS_takeB rfl rfl rfl ?_
                              first | go_big_quiet_step (rfl) | (go_big_quiet_want; go_big_quiet_op; refine ⟨_, fun _ => rfl, ?_⟩; go_big_quiet_on)
                              refine wpQuiet_nil ?_
                            refine wpS_doL rfl ?_
                            intro K hK
                            go_wp2_with (fail)
                            try replace hb := hb.trans (hn.mono hb.size)
                            refine hK.out _ _ (up_iff.2 hb) ?_
                            clear hK K
                            try clear hn
                            refine wpS_doL rfl ?_
                            intro K hK
                            go_wp2_with (fail)
                            try replace hb := hb.trans (hn.mono hb.size)
                            refine hK.out _ _ (up_iff.2 hb) ?_
                            clear hK K
                            try clear hn
                            refine wpS_nil ?_
                            simp only [List.drop_succ_cons, List.drop_zero]
                            have KA9 := Lib.hid (KA8.out.of hb)
                            have HB9 := Lib.hid (HB8.out.trans (hb.mono HB8.out.size))
                            clear hb cp ca lp la lg q6 q7 q8 q9 KP8 KA8 HB8
                            go_wp2_with fail
                            go_roundg (tl - (j + 1))
                            case measure => omega
                            case rel => exact ⟨j + 1, _, by norm_cast, rfl, by omega, Nat.le_refl _, HF1, KA9, HB9⟩
                        · go_wp2_with fail
                          refine name_world ?_
                          intro W5 hW5
                          have KP5 : Hid (PVar W5 wr.heap.size px py) := by rw [hW5]; exact Lib.hid (Blk.new wr _ _)
                          have hbq : Below wr.heap.size wr W5 := by rw [hW5]; exact below_a1 _ _
                          have KA5 := Lib.hid (KA.out.of hbq)
                          have HB5 := Lib.hid (HB.out.trans (hbq.mono HB.out.size))
                          obtain ⟨pb, epb⟩ : ∃ b, wr.heap.size = b := ⟨_, rfl⟩
                          rw [epb] at KP5 ⊢
                          clear hW5 hbq p0 p1 KA4 lka ca KA HB epb he
                          have HC5 := HC.out W5 HB5.out
                          obtain ⟨lg, ⟨q0, q1⟩, ⟨q2, q3⟩, ⟨q4, q5⟩, ⟨q6, q7⟩, q8, q9⟩ := HC5
                          have cp := PVar.c KP5.out
                          have ca := PVar.c KA5.out
                          have lp := KP5.out.lt
                          have la := KA5.out.lt
                          go_wp2_with fail
                          refine wp_region_up W5.heap.size 21 [(true, 0), (true, 2), (true, 3), (true, 4), (true, 5), (true, 6), (true, 7), (true, 8), (true, 9), (true, 11), (false, 1), (false, 10), (false, 12), (false, 13), (true, 14), (true, 15), (true, 16), (true, 18), (true, 19), (true, 20), (false, 17)] (by kernel_rfl) (by kernel_rfl) (fun _ _ d _ _ h => by cases d <;> exact h) ?_
                          have hb : Below W5.heap.size W5 W5.drew := (Below.refl _ _).drew
                          iterate 10
                            first | refine wpS_takeL rfl rfl ?_ | refine wpS_takeB rfl rfl rfl ?_
                            first | go_big_quiet_step (rfl) | (go_big_quiet_want; go_big_quiet_op; refine ⟨_, fun _ => rfl, ?_⟩; go_big_quiet_on)
                            refine wpQuiet_nil ?_
                          refine wpS_doL rfl ?_
                          intro K hK
                          go_wp2_with ((first | (go_at_call 6; (with_reducible refine (pref_any px py _).mono ?_); rintro e w2 ⟨rfl, hn⟩) | (go_at_call 6; (with_reducible refine (pref_any ax ay _).mono ?_); rintro e w2 ⟨rfl, hn⟩) | (go_at_call 6; (with_reducible refine (pref_any bx b_y _).mono ?_); rintro e w2 ⟨rfl, hn⟩) | (go_at_call 6; (with_reducible refine (pref_any zx zy _).mono ?_); rintro e w2 ⟨rfl, hn⟩)))
                          replace hb := hb.trans (hn.mono hb.size)
                          refine hK.out _ _ (up_iff.2 hb) ?_
                          clear hK K
                          clear hn
                          refine wpS_doL rfl ?_
                          intro K hK
                          go_wp2_with ((first | (go_at_call 6; (with_reducible refine (pref_any px py _).mono ?_); rintro e w2 ⟨rfl, hn⟩) | (go_at_call 6; (with_reducible refine (pref_any ax ay _).mono ?_); rintro e w2 ⟨rfl, hn⟩) | (go_at_call 6; (with_reducible refine (pref_any bx b_y _).mono ?_); rintro e w2 ⟨rfl, hn⟩) | (go_at_call 6; (with_reducible refine (pref_any zx zy _).mono ?_); rintro e w2 ⟨rfl, hn⟩)))
                          replace hb := hb.trans (hn.mono hb.size)
                          refine hK.out _ _ (up_iff.2 hb) ?_
                          clear hK K
                          clear hn
                          refine wpS_doL rfl ?_
                          intro K hK
                          go_wp2_with ((first | (go_at_call 6; (with_reducible refine (pref_any px py _).mono ?_); rintro e w2 ⟨rfl, hn⟩) | (go_at_call 6; (with_reducible refine (pref_any ax ay _).mono ?_); rintro e w2 ⟨rfl, hn⟩) | (go_at_call 6; (with_reducible refine (pref_any bx b_y _).mono ?_); rintro e w2 ⟨rfl, hn⟩) | (go_at_call 6; (with_reducible refine (pref_any zx zy _).mono ?_); rintro e w2 ⟨rfl, hn⟩)))
                          replace hb := hb.trans (hn.mono hb.size)
                          refine hK.out _ _ (up_iff.2 hb) ?_
                          clear hK K
                          clear hn
                          refine wpS_doL rfl ?_
                          intro K hK
                          go_wp2_with ((go_at_call 8; (with_reducible refine (rWay_is ax ay bx b_y px py r HRW.out _).mono ?_); rintro e w2 ⟨rfl, hn⟩))
                          replace hb := hb.trans (hn.mono hb.size)
                          refine hK.out _ _ (up_iff.2 hb) ?_
                          clear hK K
                          clear hn
                          iterate 6
                            first | refine wpS_takeL rfl rfl ?_ | refine wpS_takeB rfl rfl rfl ?_
                            first | go_big_quiet_step (rfl) | (go_big_quiet_want; go_big_quiet_op; refine ⟨_, fun _ => rfl, ?_⟩; go_big_quiet_on)
                            refine wpQuiet_nil ?_
                          refine wpS_doL rfl ?_
                          intro K hK
                          go_wp2_with ((first | (go_at_call 6; (with_reducible refine (pref_any px py _).mono ?_); rintro e w2 ⟨rfl, hn⟩) | (go_at_call 6; (with_reducible refine (pref_any ax ay _).mono ?_); rintro e w2 ⟨rfl, hn⟩) | (go_at_call 6; (with_reducible refine (pref_any bx b_y _).mono ?_); rintro e w2 ⟨rfl, hn⟩) | (go_at_call 6; (with_reducible refine (pref_any zx zy _).mono ?_); rintro e w2 ⟨rfl, hn⟩)))
                          try replace hb := hb.trans (hn.mono hb.size)
                          refine hK.out _ _ (up_iff.2 hb) ?_
                          clear hK K
                          try clear hn
                          refine wpS_nil ?_
                          simp only [List.drop_succ_cons, List.drop_zero]
                          have KP6 := Lib.hid (KP5.out.of hb)
                          have KA6 := Lib.hid (KA5.out.of hb)
                          have HB6 := Lib.hid (HB5.out.trans (hb.mono HB5.out.size))
                          clear hb cp ca lp la lg q0 q1 q2 q3 q4 q5 q6 q7 q8 q9 KP5 KA5 HB5
                          go_wp2_with fail
                          refine (pref_any zx zy _).mono ?_
                          rintro e W6 ⟨rfl, hn⟩
                          have KP7 := Lib.hid (KP6.out.of hn)
                          have KA7 := Lib.hid (KA6.out.of hn)
                          have HB7 := Lib.hid (HB6.out.trans (hn.mono HB6.out.size))
                          clear hn KP6 KA6 HB6
                          go_wp2_with fail
                          refine (rAhead_is px py zx zy false HAP.out _).mono ?_
                          rintro e W7 ⟨rfl, hn⟩
                          have KP8 := Lib.hid (KP7.out.of hn)
                          have KA8 := Lib.hid (KA7.out.of hn)
                          have HB8 := Lib.hid (HB7.out.trans (hn.mono HB7.out.size))
                          clear hn KP7 KA7 HB7
                          have HC7 := HC.out W7 HB8.out
                          obtain ⟨lg, _, _, _, ⟨q6, q7⟩, q8, q9⟩ := HC7
                          have cp := PVar.c KP8.out
                          have ca := PVar.c KA8.out
                          have lp := KP8.out.lt
                          have la := KA8.out.lt
                          by_cases h2 : hl ≤ 2
                          · have h2i : decide ((hl : Int) ≤ 2) = true := decide_eq_true (by omega)
                            go_wp2_with fail
                            refine wp_region_up W7.heap.size 16 [(true, 0), (true, 1), (true, 2), (true, 3), (true, 4), (true, 5), (true, 6), (true, 8), (true, 9), (true, 10), (true, 11), (true, 12), (true, 13), (true, 15), (false, 7), (false, 14)] (by kernel_rfl) (by kernel_rfl) (fun _ _ d _ _ h => by cases d <;> exact h) ?_
                            have hb : Below W7.heap.size W7 W7.drew := (Below.refl _ _).drew
                            iterate 14
                              first | refine wpS_takeL rfl rfl ?_ | refine wpS_takeB rfl rfl rfl ?_
                              first | go_big_quiet_step (rfl) | (go_big_quiet_want; go_big_quiet_op; refine ⟨_, fun _ => rfl, ?_⟩; go_big_quiet_on)
                              refine wpQuiet_nil ?_
                            refine wpS_doL rfl ?_
                            intro K hK
                            go_wp2_with ((first | (go_at_call 6; (with_reducible refine (pref_any px py _).mono ?_); rintro e w2 ⟨rfl, hn⟩) | (go_at_call 6; (with_reducible refine (pref_any yx yy _).mono ?_); rintro e w2 ⟨rfl, hn⟩) | (go_at_call 6; (with_reducible refine (pref_any zx zy _).mono ?_); rintro e w2 ⟨rfl, hn⟩)))
                            try replace hb := hb.trans (hn.mono hb.size)
                            refine hK.out _ _ (up_iff.2 hb) ?_
                            clear hK K
                            try clear hn
                            refine wpS_doL rfl ?_
                            intro K hK
                            go_wp2_with ((first | (go_at_call 6; (with_reducible refine (pref_any px py _).mono ?_); rintro e w2 ⟨rfl, hn⟩) | (go_at_call 6; (with_reducible refine (pref_any yx yy _).mono ?_); rintro e w2 ⟨rfl, hn⟩) | (go_at_call 6; (with_reducible refine (pref_any zx zy _).mono ?_); rintro e w2 ⟨rfl, hn⟩)))
                            try replace hb := hb.trans (hn.mono hb.size)
                            refine hK.out _ _ (up_iff.2 hb) ?_
                            clear hK K
                            try clear hn
                            refine wpS_nil ?_
                            simp only [List.drop_succ_cons, List.drop_zero]
                            have KP9 := Lib.hid (KP8.out.of hb)
                            have KA9 := Lib.hid (KA8.out.of hb)
                            have HB9 := Lib.hid (HB8.out.trans (hb.mono HB8.out.size))
                            clear hb cp ca lp la lg q6 q7 q8 q9 KP8 KA8 HB8
                            have cp := PVar.c KP9.out
                            have lp := KP9.out.lt
                            go_wp2_with fail
                            refine (pref_any px py _).mono ?_
                            rintro e W10 ⟨rfl, hn⟩
                            have KA10 := Lib.hid (KA9.out.of hn)
                            have HB10 := Lib.hid (HB9.out.trans (hn.mono HB9.out.size))
                            clear hn KP9 KA9 HB9 cp lp
                            go_wp2_with fail
                            refine (rOn_is zx zy yx yy px py true (HOP.out h2) _).mono ?_
                            rintro e W11 ⟨rfl, hn⟩
                            have KA11 := Lib.hid (KA10.out.of hn)
                            have HB11 := Lib.hid (HB10.out.trans (hn.mono HB10.out.size))
                            clear hn KA10 HB10
                            go_wp2_with fail
                            go_roundg (tl - (j + 1))
                            case measure => omega
                            case rel => exact ⟨j + 1, _, by norm_cast, rfl, by omega, Nat.le_refl _, HF1, KA11, HB11⟩
                          · have h2i : decide ((hl : Int) ≤ 2) = false := decide_eq_false (by omega)
                            go_wp2_with fail
                            refine wp_region_up W7.heap.size 16 [(true, 0), (true, 1), (true, 2), (true, 3), (true, 4), (true, 5), (true, 6), (true, 8), (true, 9), (true, 10), (true, 11), (true, 12), (true, 13), (true, 15), (false, 7), (false, 14)] (by kernel_rfl) (by kernel_rfl) (fun _ _ d _ _ h => by cases d <;> exact h) ?_
                            have hb : Below W7.heap.size W7 W7.drew := (Below.refl _ _).drew
                            iterate 14
                              first | refine wpS_takeL rfl rfl ?_ | refine wpS_takeB rfl rfl rfl ?_
                              first | go_big_quiet_step (rfl) | (go_big_quiet_want; go_big_quiet_op; refine ⟨_, fun _ => rfl, ?_⟩; go_big_quiet_on)
                              refine wpQuiet_nil ?_
                            refine wpS_doL rfl ?_
                            intro K hK
                            go_wp2_with (fail)
                            try replace hb := hb.trans (hn.mono hb.size)
                            refine hK.out _ _ (up_iff.2 hb) ?_
                            clear hK K
                            try clear hn
                            refine wpS_doL rfl ?_
                            intro K hK
                            go_wp2_with (fail)
                            try replace hb := hb.trans (hn.mono hb.size)
                            refine hK.out _ _ (up_iff.2 hb) ?_
                            clear hK K
                            try clear hn
                            refine wpS_nil ?_
                            simp only [List.drop_succ_cons, List.drop_zero]
                            have KA9 := Lib.hid (KA8.out.of hb)
                            have HB9 := Lib.hid (HB8.out.trans (hb.mono HB8.out.size))
                            clear hb cp ca lp la lg q6 q7 q8 q9 KP8 KA8 HB8
                            go_wp2_with fail
                            go_roundg (tl - (j + 1))
                            case measure => omega
                            case rel => exact ⟨j + 1, _, by norm_cast, rfl, by omega, Nat.le_refl _, HF1, KA9, HB9⟩
                        · go_wp2_with fail
                          refine name_world ?_
                          intro W5 hW5
                          have KP5 : Hid (PVar W5 wr.heap.size px py) := by rw [hW5]; exact Lib.hid (Blk.new wr _ _)
                          have hbq : Below wr.heap.size wr W5 := by rw [hW5]; exact below_a1 _ _
                          have KA5 := Lib.hid (KA.out.of hbq)
                          have HB5 := Lib.hid (HB.out.trans (hbq.mono HB.out.size))
                          obtain ⟨pb, epb⟩ : ∃ b, wr.heap.size = b := ⟨_, rfl⟩
                          rw [epb] at KP5 ⊢
                          clear hW5 hbq p0 p1 KA4 lka ca KA HB epb he
                          have HC5 := HC.out W5 HB5.out
                          obtain ⟨lg, ⟨q0, q1⟩, ⟨q2, q3⟩, ⟨q4, q5⟩, ⟨q6, q7⟩, q8, q9⟩ := HC5
                          have cp := PVar.c KP5.out
                          have ca := PVar.c KA5.out
                          have lp := KP5.out.lt
                          have la := KA5.out.lt
                          go_wp2_with fail
                          refine wp_region_up W5.heap.size 21 [(true, 0), (true, 2), (true, 3), (true, 4), (true, 5), (true, 6), (true, 7), (true, 8), (true, 9), (true, 11), (false, 1), (false, 10), (false, 12), (false, 13), (true, 14), (true, 15), (true, 16), (true, 18), (true, 19), (true, 20), (false, 17)] (by kernel_rfl) (by kernel_rfl) (fun _ _ d _ _ h => by cases d <;> exact h) ?_
                          have hb : Below W5.heap.size W5 W5.drew := (Below.refl _ _).drew
                          iterate 10
                            first | refine wpS_takeL rfl rfl ?_ | refine wpS_takeB rfl rfl rfl ?_
                            first | go_big_quiet_step (rfl) | (go_big_quiet_want; go_big_quiet_op; refine ⟨_, fun _ => rfl, ?_⟩; go_big_quiet_on)
                            refine wpQuiet_nil ?_
                          refine wpS_doL rfl ?_
                          intro K hK
                          go_wp2_with ((first | (go_at_call 6; (with_reducible refine (pref_any px py _).mono ?_); rintro e w2 ⟨rfl, hn⟩) | (go_at_call 6; (with_reducible refine (pref_any px ay _).mono ?_); rintro e w2 ⟨rfl, hn⟩) | (go_at_call 6; (with_reducible refine (pref_any bx b_y _).mono ?_); rintro e w2 ⟨rfl, hn⟩) | (go_at_call 6; (with_reducible refine (pref_any zx zy _).mono ?_); rintro e w2 ⟨rfl, hn⟩)))
                          replace hb := hb.trans (hn.mono hb.size)
                          refine hK.out _ _ (up_iff.2 hb) ?_
                          clear hK K
                          clear hn
                          refine wpS_doL rfl ?_
                          intro K hK
                          go_wp2_with ((first | (go_at_call 6; (with_reducible refine (pref_any px py _).mono ?_); rintro e w2 ⟨rfl, hn⟩) | (go_at_call 6; (with_reducible refine (pref_any px ay _).mono ?_); rintro e w2 ⟨rfl, hn⟩) | (go_at_call 6; (with_reducible refine (pref_any bx b_y _).mono ?_); rintro e w2 ⟨rfl, hn⟩) | (go_at_call 6; (with_reducible refine (pref_any zx zy _).mono ?_); rintro e w2 ⟨rfl, hn⟩)))
                          replace hb := hb.trans (hn.mono hb.size)
                          refine hK.out _ _ (up_iff.2 hb) ?_
                          clear hK K
                          clear hn
                          refine wpS_doL rfl ?_
                          intro K hK
                          go_wp2_with ((first | (go_at_call 6; (with_reducible refine (pref_any px py _).mono ?_); rintro e w2 ⟨rfl, hn⟩) | (go_at_call 6; (with_reducible refine (pref_any px ay _).mono ?_); rintro e w2 ⟨rfl, hn⟩) | (go_at_call 6; (with_reducible refine (pref_any bx b_y _).mono ?_); rintro e w2 ⟨rfl, hn⟩) | (go_at_call 6; (with_reducible refine (pref_any zx zy _).mono ?_); rintro e w2 ⟨rfl, hn⟩)))
                          replace hb := hb.trans (hn.mono hb.size)
                          refine hK.out _ _ (up_iff.2 hb) ?_
                          clear hK K
                          clear hn
                          refine wpS_doL rfl ?_
                          intro K hK
                          go_wp2_with ((go_at_call 8; (with_reducible refine (rWay_is px ay bx b_y px py r HRW.out _).mono ?_); rintro e w2 ⟨rfl, hn⟩))
                          replace hb := hb.trans (hn.mono hb.size)
                          refine hK.out _ _ (up_iff.2 hb) ?_
                          clear hK K
                          clear hn
                          iterate 6
                            first | refine wpS_takeL rfl rfl ?_ | refine wpS_takeB rfl rfl rfl ?_
                            first | go_big_quiet_step (rfl) | (go_big_quiet_want; go_big_quiet_op; refine ⟨_, fun _ => rfl, ?_⟩; go_big_quiet_on)
                            refine wpQuiet_nil ?_
                          refine wpS_doL rfl ?_
                          intro K hK
                          go_wp2_with ((first | (go_at_call 6; (with_reducible refine (pref_any px py _).mono ?_); rintro e w2 ⟨rfl, hn⟩) | (go_at_call 6; (with_reducible refine (pref_any px ay _).mono ?_); rintro e w2 ⟨rfl, hn⟩) | (go_at_call 6; (with_reducible refine (pref_any bx b_y _).mono ?_); rintro e w2 ⟨rfl, hn⟩) | (go_at_call 6; (with_reducible refine (pref_any zx zy _).mono ?_); rintro e w2 ⟨rfl, hn⟩)))
                          try replace hb := hb.trans (hn.mono hb.size)
                          refine hK.out _ _ (up_iff.2 hb) ?_
                          clear hK K
                          try clear hn
                          refine wpS_nil ?_
                          simp only [List.drop_succ_cons, List.drop_zero]
                          have KP6 := Lib.hid (KP5.out.of hb)
                          have KA6 := Lib.hid (KA5.out.of hb)
                          have HB6 := Lib.hid (HB5.out.trans (hb.mono HB5.out.size))
                          clear hb cp ca lp la lg q0 q1 q2 q3 q4 q5 q6 q7 q8 q9 KP5 KA5 HB5
                          go_wp2_with fail
                          refine (pref_any zx zy _).mono ?_
                          rintro e W6 ⟨rfl, hn⟩
                          have KP7 := Lib.hid (KP6.out.of hn)
                          have KA7 := Lib.hid (KA6.out.of hn)
                          have HB7 := Lib.hid (HB6.out.trans (hn.mono HB6.out.size))
                          clear hn KP6 KA6 HB6
                          go_wp2_with fail
                          refine (rAhead_is px py zx zy false HAP.out _).mono ?_
                          rintro e W7 ⟨rfl, hn⟩
                          have KP8 := Lib.hid (KP7.out.of hn)
                          have KA8 := Lib.hid (KA7.out.of hn)
                          have HB8 := Lib.hid (HB7.out.trans (hn.mono HB7.out.size))
                          clear hn KP7 KA7 HB7
                          have HC7 := HC.out W7 HB8.out
                          obtain ⟨lg, _, _, _, ⟨q6, q7⟩, q8, q9⟩ := HC7
                          have cp := PVar.c KP8.out
                          have ca := PVar.c KA8.out
                          have lp := KP8.out.lt
                          have la := KA8.out.lt
                          by_cases h2 : hl ≤ 2
                          · have h2i : decide ((hl : Int) ≤ 2) = true := decide_eq_true (by omega)
                            go_wp2_with fail
                            refine wp_region_up W7.heap.size 16 [(true, 0), (true, 1), (true, 2), (true, 3), (true, 4), (true, 5), (true, 6), (true, 8), (true, 9), (true, 10), (true, 11), (true, 12), (true, 13), (true, 15), (false, 7), (false, 14)] (by kernel_rfl) (by kernel_rfl) (fun _ _ d _ _ h => by cases d <;> exact h) ?_
                            have hb : Below W7.heap.size W7 W7.drew := (Below.refl _ _).drew
                            iterate 14
                              first | refine wpS_takeL rfl rfl ?_ | refine wpS_takeB rfl rfl rfl ?_
                              first | go_big_quiet_step (rfl) | (go_big_quiet_want; go_big_quiet_op; refine ⟨_, fun _ => rfl, ?_⟩; go_big_quiet_on)
                              refine wpQuiet_nil ?_
                            refine wpS_doL rfl ?_
                            intro K hK
                            go_wp2_with ((first | (go_at_call 6; (with_reducible refine (pref_any px py _).mono ?_); rintro e w2 ⟨rfl, hn⟩) | (go_at_call 6; (with_reducible refine (pref_any yx yy _).mono ?_); rintro e w2 ⟨rfl, hn⟩) | (go_at_call 6; (with_reducible refine (pref_any zx zy _).mono ?_); rintro e w2 ⟨rfl, hn⟩)))
                            try replace hb := hb.trans (hn.mono hb.size)
                            refine hK.out _ _ (up_iff.2 hb) ?_
                            clear hK K
                            try clear hn
                            refine wpS_doL rfl ?_
                            intro K hK
                            go_wp2_with ((first | (go_at_call 6; (with_reducible refine (pref_any px py _).mono ?_); rintro e w2 ⟨rfl, hn⟩) | (go_at_call 6; (with_reducible refine (pref_any yx yy _).mono ?_); rintro e w2 ⟨rfl, hn⟩) | (go_at_call 6; (with_reducible refine (pref_any zx zy _).mono ?_); rintro e w2 ⟨rfl, hn⟩)))
                            try replace hb := hb.trans (hn.mono hb.size)
                            refine hK.out _ _ (up_iff.2 hb) ?_
                            clear hK K
                            try clear hn
                            refine wpS_nil ?_
                            simp only [List.drop_succ_cons, List.drop_zero]
                            have KP9 := Lib.hid (KP8.out.of hb)
                            have KA9 := Lib.hid (KA8.out.of hb)
                            have HB9 := Lib.hid (HB8.out.trans (hb.mono HB8.out.size))
                            clear hb cp ca lp la lg q6 q7 q8 q9 KP8 KA8 HB8
                            have cp := PVar.c KP9.out
                            have lp := KP9.out.lt
                            go_wp2_with fail
                            refine (pref_any px py _).mono ?_
                            rintro e W10 ⟨rfl, hn⟩
                            have KA10 := Lib.hid (KA9.out.of hn)
                            have HB10 := Lib.hid (HB9.out.trans (hn.mono HB9.out.size))
                            clear hn KP9 KA9 HB9 cp lp
                            go_wp2_with fail
                            refine (rOn_is zx zy yx yy px py true (HOP.out h2) _).mono ?_
                            rintro e W11 ⟨rfl, hn⟩
                            have KA11 := Lib.hid (KA10.out.of hn)
                            have HB11 := Lib.hid (HB10.out.trans (hn.mono HB10.out.size))
                            clear hn KA10 HB10
                            go_wp2_with fail
                            go_roundg (tl - (j + 1))
                            case measure => omega
                            case rel => exact ⟨j + 1, _, by norm_cast, rfl, by omega, Nat.le_refl _, HF1, KA11, HB11⟩
                          · have h2i : decide ((hl : Int) ≤ 2) = false := decide_eq_false (by omega)
                            go_wp2_with fail
                            refine wp_region_up W7.heap.size 16 [(true, 0), (true, 1), (true, 2), (true, 3), (true, 4), (true, 5), (true, 6), (true, 8), (true, 9), (true, 10), (true, 11), (true, 12), (true, 13), (true, 15), (false, 7), (false, 14)] (by kernel_rfl) (by kernel_rfl) (fun _ _ d _ _ h => by cases d <;> exact h) ?_
                            have hb : Below W7.heap.size W7 W7.drew := (Below.refl _ _).drew
                            iterate 14
                              first | refine wpS_takeL rfl rfl ?_ | refine wpS_takeB rfl rfl rfl ?_
                              first | go_big_quiet_step (rfl) | (go_big_quiet_want; go_big_quiet_op; refine ⟨_, fun _ => rfl, ?_⟩; go_big_quiet_on)
                              refine wpQuiet_nil ?_
                            refine wpS_doL rfl ?_
                            intro K hK
                            go_wp2_with (fail)
                            try replace hb := hb.trans (hn.mono hb.size)
                            refine hK.out _ _ (up_iff.2 hb) ?_
                            clear hK K
                            try clear hn
                            refine wpS_doL rfl ?_
                            intro K hK
                            go_wp2_with (fail)
                            try replace hb := hb.trans (hn.mono hb.size)
                            refine hK.out _ _ (up_iff.2 hb) ?_
                            clear hK K
                            try clear hn
                            refine wpS_nil ?_
                            simp only [List.drop_succ_cons, List.drop_zero]
                            have KA9 := Lib.hid (KA8.out.of hb)
                            have HB9 := Lib.hid (HB8.out.trans (hb.mono HB8.out.size))
                            clear hb cp ca lp la lg q6 q7 q8 q9 KP8 KA8 HB8
                            go_wp2_with fail
                            go_roundg (tl - (j + 1))
                            case measure => omega
                            case rel => exact ⟨j + 1, _, by norm_cast, rfl, by omega, Nat.le_refl _, HF1, KA9, HB9⟩
                    · have hjt : tl = j := by omega
                      subst hjt
                      have hft : f = true := by rw [← HF.out]; exact HFN.out
                      subst hft
                      have HC5 := HC.out wr HB.out
                      obtain ⟨lg, ⟨q0, q1⟩, ⟨q2, q3⟩, ⟨q4, q5⟩, _⟩ := HC5
                      have ca := PVar.c KA.out
                      have la := KA.out.lt
                      clear hj hg2 HF
                      by_cases h2 : 2 < hl
                      · have h2i : decide (2 < (hl : Int)) = true := decide_eq_true (by omega)
                        obtain ⟨r, hr⟩ : ∃ r, way ax ay bx b_y cx cy = r := ⟨_, rfl⟩
                        have HRW := Lib.hid hr
                        have hr0 : decide (r ≤ 0) = false := by have := HTU.out h2; rw [hr] at this; exact decide_eq_false (by omega)
                        clear hr
                        go_wp2_with fail
                        refine wp_region_up wr.heap.size 26 [(true, 0), (true, 1), (true, 2), (true, 3), (true, 4), (true, 5), (true, 6), (true, 7), (true, 9), (true, 10), (true, 11), (true, 12), (true, 13), (true, 14), (true, 15), (true, 16), (true, 18), (true, 19), (true, 20), (true, 21), (true, 22), (true, 23), (true, 24), (true, 25), (false, 8), (false, 17)] (by kernel_rfl) (by kernel_rfl) (fun _ _ d _ _ h => by cases d <;> exact h) ?_
                        have hb : Below wr.heap.size wr wr.drew := (Below.refl _ _).drew
                        iterate 24
                          first | refine wpS_takeL rfl rfl ?_ | refine wpS_takeB rfl rfl rfl ?_
                          first | go_big_quiet_step (rfl) | (go_big_quiet_want; go_big_quiet_op; refine ⟨_, fun _ => rfl, ?_⟩; go_big_quiet_on)
                          refine wpQuiet_nil ?_
                        refine wpS_doL rfl ?_
                        intro K hK
                        go_wp2_with ((first | (go_at_call 6; (with_reducible refine (pref_any ax ay _).mono ?_); rintro e w2 ⟨rfl, hn⟩) | (go_at_call 6; (with_reducible refine (pref_any bx b_y _).mono ?_); rintro e w2 ⟨rfl, hn⟩) | (go_at_call 6; (with_reducible refine (pref_any cx cy _).mono ?_); rintro e w2 ⟨rfl, hn⟩)))
                        try replace hb := hb.trans (hn.mono hb.size)
                        refine hK.out _ _ (up_iff.2 hb) ?_
                        clear hK K
                        try clear hn
                        refine wpS_doL rfl ?_
                        intro K hK
                        go_wp2_with ((first | (go_at_call 6; (with_reducible refine (pref_any ax ay _).mono ?_); rintro e w2 ⟨rfl, hn⟩) | (go_at_call 6; (with_reducible refine (pref_any bx b_y _).mono ?_); rintro e w2 ⟨rfl, hn⟩) | (go_at_call 6; (with_reducible refine (pref_any cx cy _).mono ?_); rintro e w2 ⟨rfl, hn⟩)))
                        try replace hb := hb.trans (hn.mono hb.size)
                        refine hK.out _ _ (up_iff.2 hb) ?_
                        clear hK K
                        try clear hn
                        refine wpS_nil ?_
                        simp only [List.drop_succ_cons, List.drop_zero]
                        have HB6 := Lib.hid (HB.out.trans (hb.mono HB.out.size))
                        clear hb lg q0 q1 q2 q3 q4 q5 ca la KA HB
                        go_wp2_with fail
                        refine (pref_any cx cy _).mono ?_
                        rintro e W9 ⟨rfl, hn⟩
                        have HB8 := Lib.hid (HB6.out.trans (hn.mono HB6.out.size))
                        clear hn HB6
                        go_wp2_with fail
                        refine (rWay_is ax ay bx b_y cx cy r HRW.out _).mono ?_
                        rintro e W10 ⟨rfl, hn⟩
                        have HB7 := Lib.hid (HB8.out.trans (hn.mono HB8.out.size))
                        clear hn HB8
                        go_wp2_with fail
                        go_roundg (hl - (k + 1))
                        case measure => omega
                        case rel => exact ⟨k + 1, by norm_cast, by omega, Nat.le_refl _, HB7⟩
                      · have h2i : decide (2 < (hl : Int)) = false := decide_eq_false (by omega)
                        go_wp2_with fail
                        refine wp_region_up wr.heap.size 26 [(true, 0), (true, 1), (true, 2), (true, 3), (true, 4), (true, 5), (true, 6), (true, 7), (true, 9), (true, 10), (true, 11), (true, 12), (true, 13), (true, 14), (true, 15), (true, 16), (true, 18), (true, 19), (true, 20), (true, 21), (true, 22), (true, 23), (true, 24), (true, 25), (false, 8), (false, 17)] (by kernel_rfl) (by kernel_rfl) (fun _ _ d _ _ h => by cases d <;> exact h) ?_
                        have hb : Below wr.heap.size wr wr.drew := (Below.refl _ _).drew
                        iterate 24
                          first | refine wpS_takeL rfl rfl ?_ | refine wpS_takeB rfl rfl rfl ?_
                          first | go_big_quiet_step (rfl) | (go_big_quiet_want; go_big_quiet_op; refine ⟨_, fun _ => rfl, ?_⟩; go_big_quiet_on)
                          refine wpQuiet_nil ?_
                        refine wpS_doL rfl ?_
                        intro K hK
                        go_wp2_with (fail)
                        try replace hb := hb.trans (hn.mono hb.size)
                        refine hK.out _ _ (up_iff.2 hb) ?_
                        clear hK K
                        try clear hn
                        refine wpS_doL rfl ?_
                        intro K hK
                        go_wp2_with (fail)
                        try replace hb := hb.trans (hn.mono hb.size)
                        refine hK.out _ _ (up_iff.2 hb) ?_
                        clear hK K
                        try clear hn
                        refine wpS_nil ?_
                        simp only [List.drop_succ_cons, List.drop_zero]
                        have HB6 := Lib.hid (HB.out.trans (hb.mono HB.out.size))
                        clear hb lg q0 q1 q2 q3 q4 q5 ca la KA HB
                        go_wp2_with fail
                        go_roundg (hl - (k + 1))
                        case measure => omega
                        case rel => exact ⟨k + 1, by norm_cast, by omega, Nat.le_refl _, HB6⟩
                · have hkn : hl = k := by omega
                  subst hkn
                  have HB4 := Lib.hid (HB3.out.trans (HBL.out.mono HB3.out.size))
                  have hrow := HROW.out.below HBL.out
                  have lg := hrow.lt
                  have c0 := hrow.cell (k := 0) (by omega)
                  rw [Nat.zero_mul, Nat.zero_add] at c0
                  obtain ⟨zx, hzx⟩ : ∃ x, (gP h 0).1 = x := ⟨_, rfl⟩
                  obtain ⟨zy, hzy⟩ : ∃ x, (gP h 0).2 = x := ⟨_, rfl⟩
                  rw [hzx, hzy] at c0
                  obtain ⟨q0, q1⟩ := c0
                  by_cases h2 : hl = 2
                  · subst h2
                    have c1 := hrow.cell (k := 1) (by omega)
                    rw [Nat.one_mul] at c1
                    obtain ⟨yx, hyx⟩ : ∃ x, (gP h 1).1 = x := ⟨_, rfl⟩
                    obtain ⟨yy, hyy⟩ : ∃ x, (gP h 1).2 = x := ⟨_, rfl⟩
                    rw [hyx, hyy] at c1
                    obtain ⟨q2, q3⟩ := c1
                    obtain ⟨e, he⟩ : ∃ e, eqP zx zy yx yy = e := ⟨_, rfl⟩
                    have hne : e = false := by
                      cases e
                      · rfl
                      · have := HS.out.two HHL.out
                        rw [← hzx, ← hzy, ← hyx, ← hyy, eqP_iff] at he
                        exact absurd he this
                    subst hne
                    clear hrow hzx hzy hyx hyy
                    rcases eqP_cases he with ⟨_, _, e⟩ | ⟨hne, _⟩ | ⟨rfl, hne, _⟩
                    · cases e
                    · go_wp2_with fail
                      refine wp_region_up wr.heap.size 10 [(true, 0), (true, 1), (true, 2), (true, 3), (true, 4), (true, 5), (true, 6), (true, 7), (true, 8), (true, 9)] (by kernel_rfl) (by kernel_rfl) (fun _ _ d _ _ h => by cases d <;> exact h) ?_
                      have hb : Below wr.heap.size wr wr.drew := (Below.refl _ _).drew
                      iterate 10
                        first | refine wpS_takeL rfl rfl ?_ | refine wpS_takeB rfl rfl rfl ?_
                        first | go_big_quiet_step (rfl) | (go_big_quiet_want; go_big_quiet_op; refine ⟨_, fun _ => rfl, ?_⟩; go_big_quiet_on)
                        refine wpQuiet_nil ?_
                      refine wpS_nil ?_
                      simp only [List.drop_succ_cons, List.drop_zero]
                      clear lg q0 q1 q2 q3
                      have HB5 := Lib.hid (HB4.out.trans (hb.mono HB4.out.size))
                      clear hb HB4 HBL HB3
                      go_wp2_with fail
                      refine (pawake_any _).mono ?_
                      rintro e W12 ⟨rfl, hb3⟩
                      have HB6 := Lib.hid (HB5.out.trans (hb3.mono HB5.out.size))
                      clear hb3 HB5
                      go_wp2
                      go_ret
                      exact ⟨rfl, HB6.out⟩
                    · go_wp2_with fail
                      refine wp_region_up wr.heap.size 10 [(true, 0), (true, 1), (true, 2), (true, 3), (true, 4), (true, 5), (true, 6), (true, 7), (true, 8), (true, 9)] (by kernel_rfl) (by kernel_rfl) (fun _ _ d _ _ h => by cases d <;> exact h) ?_
                      have hb : Below wr.heap.size wr wr.drew := (Below.refl _ _).drew
                      iterate 10
                        first | refine wpS_takeL rfl rfl ?_ | refine wpS_takeB rfl rfl rfl ?_
                        first | go_big_quiet_step (rfl) | (go_big_quiet_want; go_big_quiet_op; refine ⟨_, fun _ => rfl, ?_⟩; go_big_quiet_on)
                        refine wpQuiet_nil ?_
                      refine wpS_nil ?_
                      simp only [List.drop_succ_cons, List.drop_zero]
                      clear lg q0 q1 q2 q3
                      have HB5 := Lib.hid (HB4.out.trans (hb.mono HB4.out.size))
                      clear hb HB4 HBL HB3
                      go_wp2_with fail
                      refine (pawake_any _).mono ?_
                      rintro e W12 ⟨rfl, hb3⟩
                      have HB6 := Lib.hid (HB5.out.trans (hb3.mono HB5.out.size))
                      clear hb3 HB5
                      go_wp2
                      go_ret
                      exact ⟨rfl, HB6.out⟩
                  · have h2i : ((hl : Int) == 2) = false := by simp; omega
                    have h2n : ((hl : Int) != 2) = true := by simp; omega
                    have h2d : decide ((hl : Int) = 2) = false := decide_eq_false (by omega)
                    clear hrow hzx hzy
                    go_wp2_with fail
                    refine wp_region_up wr.heap.size 10 [(true, 0), (true, 1), (true, 2), (true, 3), (true, 4), (true, 5), (true, 6), (true, 7), (true, 8), (true, 9)] (by kernel_rfl) (by kernel_rfl) (fun _ _ d _ _ h => by cases d <;> exact h) ?_
                    have hb : Below wr.heap.size wr wr.drew := (Below.refl _ _).drew
                    iterate 10
                      first | refine wpS_takeL rfl rfl ?_ | refine wpS_takeB rfl rfl rfl ?_
                      first | go_big_quiet_step (rfl) | (go_big_quiet_want; go_big_quiet_op; refine ⟨_, fun _ => rfl, ?_⟩; go_big_quiet_on)
                      refine wpQuiet_nil ?_
                    refine wpS_nil ?_
                    simp only [List.drop_succ_cons, List.drop_zero]
                    clear lg q0 q1
                    have HB5 := Lib.hid (HB4.out.trans (hb.mono HB4.out.size))
                    clear hb HB4 HBL HB3
                    go_wp2_with fail
                    refine (pawake_any _).mono ?_
                    rintro e W12 ⟨rfl, hb3⟩
                    have HB6 := Lib.hid (HB5.out.trans (hb3.mono HB5.out.size))
                    clear hb3 HB5
                    go_wp2
                    go_ret
                    exact ⟨rfl, HB6.out⟩
end Go.Proofs.Ytdcihglpfchcmaa

namespace Go.Proofs.Ytdcihglpfchcmaa
open Go.RowKit

theorem PointHulls_all (ao : Option Addr) (n cap : Nat) (X Y : Nat → Int) (w : World) (h : Pts w ao n cap X Y) :
    Calls Try.prog 3 #[.slice ao n cap] w fun e w' => e = .returned (.bool true) ∧ Below w.heap.size w w' := by
  by_cases hn : 60 < n
  · exact PointHulls_big ao n cap X Y w h hn
  · have hg : ∀ i, i < n → gP ((List.range n).map fun i => (X i, Y i)) i = (X i, Y i) := fun i hi => by
      unfold gP
      rw [List.getD_eq_getElem?_getD, List.getElem?_map, List.getElem?_range hi]; rfl
    refine PointHulls_any ao n cap ((List.range n).map fun i => (X i, Y i)) (by simp) w ⟨fun h0 => ?_, h.capl, h.capb⟩ hn
    obtain ⟨a, h1, h2, h3⟩ := h.ptr h0
    refine ⟨a, h1, h2, fun i hi => ?_⟩
    rw [hg i hi]
    exact h3 i hi
end Go.Proofs.Ytdcihglpfchcmaa

namespace Go.Proofs.Ytdcihglpfchcmaa
open Go.ChangeShapes Go.WideShapes Go.ChangeAt Go.RowKit

theorem blk_add (a : Addr) (n : Nat) : (a.add n).block = a.block := by unfold Addr.add; split <;> rfl
section
variable {H : Type} {enc : TypeId × Value → H} {w : World} {base : Nat} {held : Bool}
set_option maxRecDepth 100000 in
theorem open_pts {r : Reach} {b0 : Nat} {v : Value} {d : DataW H} {p : List MemPlace} (hv : Value.okWide Try.prog w r b0 22 v) (h : DataW.Trod enc Try.prog w base (fun _ => true) held 22 v d p) :
    ∃ ao n cap X Y, v = .slice ao n cap ∧ Pts w ao n cap X Y := by
  obtain ⟨ao, n, cap, rfl⟩ := okWide_slice Try.underlying22 hv
  obtain ⟨fuel, hf⟩ := h
  have hC : Try.prog.cellsOf 25 = 2 := by kernel_rfl
  have hC1 : Try.prog.cellsOf 3 = 1 := by kernel_rfl
  rcases Go.Deep.open_slice_pairs Try.underlying22 Try.underlying25 hC rfl rfl hC1 hC1 hf with ⟨hc, hx⟩ | ⟨a, len, c2, m, k, V0, V1, D0, D1, P0, P1, hc, _, hl, hm, hmm, hx, hall⟩
  · obtain ⟨rfl, rfl, rfl⟩ : ao = none ∧ n = 0 ∧ cap = 0 := by simpa [Value.cells] using hc
    exact ⟨none, 0, 0, fun _ => 0, fun _ => 0, rfl, fun h => absurd h (by omega), Nat.le_refl _, by omega⟩
  · obtain ⟨rfl, rfl, rfl⟩ : ao = some a ∧ n = len ∧ cap = c2 := by simpa [Value.cells] using hc
    have hmc : m = cap := by rw [hmm]; rfl
    have key : ∀ i, i < n → ∃ y : Int × Int, V0 i = .int .i64 y.1 ∧ V1 i = .int .i64 y.2 := by
      intro i hi
      obtain ⟨_, _, t0, t1⟩ := hall i (by omega)
      obtain ⟨a0, e0, _, g0⟩ := DataW.trod_int Try.underlying3 t0
      obtain ⟨a1, e1, _, g1⟩ := DataW.trod_int Try.underlying3 t1
      exact ⟨(a0, a1), by simpa using e0, by simpa using e1⟩
    refine ⟨some a, n, cap, fun i => if h : i < n then (key i h).choose.1 else 0, fun i => if h : i < n then (key i h).choose.2 else 0, rfl, fun h0 => ⟨a, rfl, ?_, fun i hi => ?_⟩, hl, hm⟩
    · have := (hall 0 (by omega)).1
      have := World.block_lt_of_cell? _ _ this
      rwa [blk_add] at this
    · have e0 := (hall i (by omega)).1
      have e1 := (hall i (by omega)).2.1
      rw [(key i hi).choose_spec.1] at e0
      rw [(key i hi).choose_spec.2] at e1
      simp only [dif_pos hi]
      exact ⟨e0, by rw [Go.Deep.add_add]; exact e1⟩
end
end Go.Proofs.Ytdcihglpfchcmaa

namespace Go.Proofs.Ytdcihglpfchcmaa
open Go.ChangeShapes Go.WideShapes Go.ChangeAt Go.RowKit

set_option maxRecDepth 100000 in
set_option maxHeartbeats 1000000 in
theorem pointHulls_lifted (os : Os) (started : os.Started) (H : Type) (enc : TypeId × Value → H) :
    ReturnsInHanded {} Try.checked os 3 .any (Rows.pointHullsSpec.pre6 enc Try.prog Try.f3 Rows.pointHullsRow.domain false) (Rows.pointHullsSpec.post enc Try.prog Try.f3 false true false false) := by
  refine returnsInHanded_of_change (C := Try.checked) own started (by kernel_rfl) Try.func3
    (ChangeSpec.witness6 (enc := enc) (C := Try.checked) false ⟨#[], #[.slice none 0 0], []⟩ 8 (by kernel_rfl) (by kernel_rfl) (by kernel_rfl) (by kernel_rfl)) ?_
  intro W base args ds gs before hval0 hW hcnd _
  have hval : ∀ (j : Nat) t v, Try.f3.params[j]? = some t → args[j]? = some v → Value.okWide Try.prog W .any base t v := hval0
  have hW' := hW
  obtain ⟨p, q, hA0, hV, rfl, hfz, hnd⟩ := hW
  have hA : DataW.TrodAll enc Try.prog W 0 (fun _ => true) true Try.f3.params.toList args.toList ds p := hA0
  rw [Try.params3] at hA hval
  obtain ⟨v0, vs0, d0, ds0, p0, q0, hargs, rfl, rfl, h0, r0⟩ := trodAll_cons hA
  obtain ⟨rfl, rfl, rfl⟩ := trodAll_nil r0
  obtain rfl : args = #[v0] := by cases args; simp_all
  obtain ⟨rfl, rfl⟩ := trodVars_none hV
  have k0 := h0
  have lt0 : ∀ x ∈ p0, x.block < W.heap.size := by obtain ⟨m, hm⟩ := k0; exact DataW.trod_lt m _ _ _ hm
  obtain ⟨ao0, n0, cap0, X0, Y0, rfl, io0⟩ := open_pts (hval 0 22 v0 rfl rfl) h0
  clear hA0 hval0
  refine (PointHulls_all ao0 n0 cap0 X0 Y0 W io0).mono fun e W' ⟨he, bel⟩ => ?_
  subst he
  exact ⟨_, rfl, _, _, _, [], _, [], hW', trodAll_mk1 (shut_bool Try.underlying4 _), (trodAll_cons_mk (Below.trod laidOut (by kernel_rfl) (of_decide_eq_true (by kernel_rfl)) k0 bel lt0) trodAll_mk0), rfl, bel.frame _, fun h => by cases h⟩

theorem pointHulls_holds : Rows.PointHullsSaid :=
  OpenClaim.holds_of_wide 3 Try.f3 rfl rfl rfl rfl rfl rfl rfl ⟨rfl, rfl, rfl, rfl, rfl⟩ rfl rfl rfl rfl rfl (by kernel_rfl) Try.func3 (by kernel_rfl)
    (of_decide_eq_true (by kernel_rfl)) (by unfold Func.isWrapper; rw [if_neg (by decide +kernel)]; exact ⟨rfl, rfl⟩)
    (fun os started H enc _ => pointHulls_lifted os started H enc)
#print axioms pointHulls_holds
end Go.Proofs.Ytdcihglpfchcmaa

