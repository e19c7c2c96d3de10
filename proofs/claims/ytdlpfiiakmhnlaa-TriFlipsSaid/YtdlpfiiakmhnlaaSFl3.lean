/- My texts TrK, TrL, TrM, TrN, TrO, TrP, TrQ, TrR, TrS, TrT, TrU, TrV, TrW, TrX, TrXb, TrY, TrZ, TrAa, joined: what the last one needs of them. Conditions: as each lemma says. -/
import Derived.Test.YtdlpfiiakmhnlaaSFl2
import Derived.KernelRfl
import Derived.StillTail
import Derived.OrdersHeld
import Derived.Deep.Quiet
import Derived.Below
import Derived.WalkKit
import Derived.Test.YtdlpfiiakmhnlaaProg
import Derived.WalkSpells
import Derived.StillTactics
import Derived.Laws.Pointers
import Derived.Deep.RegionHeld3
import Derived.RowKit3
import Derived.Deep.QuietTactic
import Derived.BigQuiet
import Derived.BigRegion
import Derived.Lib.Hide
import Derived.WalkSmall
import Derived.Laws.BitsAllLaws
import Derived.IntWalk
import Derived.Deep.OwnRows
import Derived.Deep.LoopGhost
import Derived.Shelf.Bits.Mul64
import Derived.ProofKit
import Derived.OpenShut
import Derived.ShutString
import Derived.ChangeOld
import Derived.Lib.SmallJoins
import Derived.Laws.IdiomArrays
import Derived.Laws.CopyOwn
import Derived.Laws.AppendOwn
import Derived.Deep.DeepAppendRoom
import Derived.Lib.AppendZerosOnto
import Derived.Lib.Overlaps
import Derived.Deep.RegionLaw
import Derived.Shelf.RegionOpenPlain
import Derived.Deep.RegionWith
import Derived.Sort.LoopGhostIn
import Derived.RangeFuncNested
import Derived.RangeFuncBound
import Derived.RangeFuncCalls
import Derived.RangeFuncLeaves
import Derived.OwnWalk
import Derived.OwnWalkIn
import Derived.TacticsInMore
import Derived.LoopNIn
import Derived.LoopIn
import Derived.Deep.DeepFit
import Derived.Deep.DeepCutAuto
import Derived.Shelf.Abstract
import Derived.Shelf.RegionOpen
import Derived.Maps.OwnIn
import Derived.WalkMore
import Derived.Deep.SlicePairs
namespace Go.Proofs.Ytdlpfiiakmhnlaa
open Go.RowKit

def wy (X Y : Nat → Int) (a b c : Nat) : Int := way (X a) (Y a) (X b) (Y b) (X c) (Y c)
theorem wy_cases (X Y : Nat → Int) (a b c : Nat) : wy X Y a b c = -1 ∨ wy X Y a b c = 0 ∨ wy X Y a b c = 1 := way_cases _ _ _ _ _ _
theorem Pts.atP {w : World} {ao : Option Addr} {n cap : Nat} {X Y : Nat → Int} (h : Pts w ao n cap X Y) (h0 : 0 < n) : ∃ a, ao = some a ∧ ∀ i, i < n → ∀ u : UpTo w.heap.size w, u.w.cell? (a.add (i * 2)) = some (.int .i64 (X i)) ∧ u.w.cell? { block := (a.add (i * 2)).block, off := (a.add (i * 2)).off + 1 } = some (.int .i64 (Y i)) := by
  obtain ⟨a, h1, h2, h3⟩ := h.ptr h0
  have e1 : ∀ k, (a.add k).block = a.block := fun k => by unfold Addr.add; split <;> rfl
  have e2 : ∀ k l, ((a.add k).add l).block = a.block := fun k l => by unfold Addr.add; split <;> split <;> rfl
  refine ⟨a, h1, fun i hi u => ⟨?_, ?_⟩⟩
  · rw [u.below.cell (by rw [e1]; exact h2)]; exact (h3 i hi).1
  · have : u.w.cell? ((a.add (i * 2)).add 1) = some (.int .i64 (Y i)) := by rw [u.below.cell (by rw [e2]; exact h2)]; exact (h3 i hi).2
    exact this
set_option maxRecDepth 100000 in
set_option maxHeartbeats 2000000 in
theorem turn_st (t : Nat) (D : SD) (N : Nat) (X Y : Nat → Int) (O : Nat → List (Nat × Nat)) (n : Int) (a b c : Nat) (r : Int) (w : World) (h : SM w t D N X Y O n) (ha : a < N) (hb_ : b < N) (hc : c < N) (hr : wy X Y a b c = r) :
    Calls Try.prog 71 #[ptr t 0, .int .i64 a, .int .i64 b, .int .i64 c] w fun e w' => e = .returned (.int .i64 r) ∧ Below w.heap.size w w' := by
  obtain ⟨c0, c1, c2⟩ := h.c
  have lt := h.blk.lt
  have hsm := h.small
  have hpcl := h.pts.capl
  have hpcb := h.pts.capb
  obtain ⟨pa, hpa, hpt⟩ := h.pts.atP (by omega)
  rw [hpa] at c0
  have qa := hpt a ha
  have qb := hpt b hb_
  have qc := hpt c hc
  obtain ⟨ax, hax⟩ : ∃ x, X a = x := ⟨_, rfl⟩
  obtain ⟨ay, hay⟩ : ∃ x, Y a = x := ⟨_, rfl⟩
  obtain ⟨bx, hbx⟩ : ∃ x, X b = x := ⟨_, rfl⟩
  obtain ⟨b_y, hby⟩ : ∃ x, Y b = x := ⟨_, rfl⟩
  obtain ⟨cx, hcx⟩ : ∃ x, X c = x := ⟨_, rfl⟩
  obtain ⟨cy, hcy⟩ : ∃ x, Y c = x := ⟨_, rfl⟩
  have hw : way ax ay bx b_y cx cy = r := by rw [← hax, ← hay, ← hbx, ← hby, ← hcx, ← hcy]; exact hr
  rw [hax, hay] at qa
  rw [hbx, hby] at qb
  rw [hcx, hcy] at qc
  have qa0 := fun u => (qa u).1
  have qa1 := fun u => (qa u).2
  have qb0 := fun u => (qb u).1
  have qb1 := fun u => (qb u).2
  have qc0 := fun u => (qc u).1
  have qc1 := fun u => (qc u).2
  have HW := Lib.hid hw
  clear hax hay hbx hby hcx hcy hpt qa qb qc hpa hr hw h
  go_enter Try.func71, Try.ntmps71
  go_wp2_with fail
  refine wp_region_up w.heap.size 21 [(true, 0), (true, 1), (true, 2), (true, 3), (true, 4), (true, 5), (true, 6), (true, 7), (true, 8), (true, 9), (true, 10), (true, 11), (true, 12), (true, 13), (true, 14), (true, 15), (true, 16), (true, 17), (true, 18), (true, 19), (true, 20)] (by kernel_rfl) (by kernel_rfl) (fun _ _ d _ _ h => by cases d <;> exact h) ?_
  have hb : Below w.heap.size w w.drew := (Below.refl _ _).drew
  iterate 21
    first | refine wpS_takeL rfl rfl ?_ | refine wpS_takeN rfl ⟨_, rfl⟩ ?_
    go_big_quiet_step (rfl)
    refine wpQuiet_nil ?_
  refine wpS_nil ?_
  simp only [List.drop_succ_cons, List.drop_zero]
  go_wp2_with fail
  refine (Turn_is ax ay bx b_y cx cy r HW.out _).mono ?_
  rintro e w2 ⟨rfl, hn⟩
  have hb2 := hb.trans (hn.mono hb.size)
  clear hn hb
  go_wp2
  go_ret
  exact ⟨rfl, hb2⟩
/-- a list of numbers in memory -/
def NL (w : World) (base : Nat) (v : Value) (L : List Nat) : Prop := w.ownsRow base 3 1 v L.length (L.map fun x => .int .i64 (x : Nat))
theorem NL.of {w w' : World} {base : Nat} {v : Value} {L : List Nat} (h : NL w base v L) (hb : Below w.heap.size w w') : NL w' base v L := by
  refine ⟨h.1, h.2.imp id ?_⟩
  rintro ⟨g, cap, cur, rfl, hbg, hg, r⟩
  exact ⟨g, cap, cur, rfl, hbg, (hb.block _ (Array.getElem?_eq_some_iff.1 hg).1).trans hg, r⟩
theorem NL.val {w : World} {base : Nat} {v : Value} {L : List Nat} (h : NL w base v L) :
    ∃ ao cap, v = .slice ao L.length cap ∧ L.length ≤ cap ∧ cap ≤ 9223372036854775807 ∧ (0 < L.length → ∃ g, ao = some ⟨g, 0, none⟩ ∧ base ≤ g ∧ g < w.heap.size ∧ ∀ j x, L[j]? = some x → w.cell? ⟨g, j, none⟩ = some (.int .i64 (x : Nat))) := by
  rcases h.2 with ⟨rfl, hn⟩ | ⟨g, cap, cur, rfl, hb, hg, h1, h2, h3, h4⟩
  · exact ⟨none, 0, by rw [hn], by omega, by omega, fun h0 => by omega⟩
  · refine ⟨_, cap, rfl, h1, by unfold maxLen at h2; omega, fun _ => ⟨g, rfl, hb, (Array.getElem?_eq_some_iff.1 hg).1, fun j x hx => ?_⟩⟩
    have hj : j < L.length := (List.getElem?_eq_some_iff.1 hx).1
    rw [cell_row hg, ← Array.getElem?_toList]
    rw [Nat.mul_one] at h4
    have : (L.map fun x => Value.int .i64 (x : Nat))[j]? = some (.int .i64 (x : Nat)) := by rw [List.getElem?_map, hx]; rfl
    rw [← h4, List.getElem?_take_of_lt hj] at this
    exact this
/-- the builder -/
structure BM (w : World) (bb t : Nat) (base : Nat) (hv : Value) (h : List Nat) : Prop where
  blk : Blk w bb #[ptr t 0, hv] 89
  row : NL w base hv h
theorem BM.of {w w' : World} {bb t base : Nat} {hv : Value} {h : List Nat} (hm : BM w bb t base hv h) (hb : Below w.heap.size w w') : BM w' bb t base hv h := ⟨hm.blk.of hb, hm.row.of hb⟩
def gH (h : List Nat) (i : Nat) : Nat := h.getD i 0
theorem gH_at {h : List Nat} {i : Nat} (hi : i < h.length) : h[i]? = some (gH h i) := by unfold gH; rw [List.getD_eq_getElem?_getD, List.getElem?_eq_getElem hi]; rfl
theorem gH_lt {h : List Nat} {N i : Nat} (hN : ∀ x, x ∈ h → x < N) (hi : i < h.length) : gH h i < N := by
  refine hN _ ?_
  have := gH_at hi
  exact List.mem_of_getElem? this
set_option maxRecDepth 100000 in
set_option maxHeartbeats 2000000 in
theorem seen_st (bb t base : Nat) (hv : Value) (h : List Nat) (D : SD) (N : Nat) (X Y : Nat → Int) (O : Nat → List (Nat × Nat)) (n : Int) (p i : Nat) (r : Int) (w : World) (hM : SM w t D N X Y O n) (hB : BM w bb t base hv h) (hp : p < N) (hi : i < h.length) (hN : ∀ x, x ∈ h → x < N)
    (hr : wy X Y (gH h i) (gH h (nx h.length i)) p = r) :
    Calls Try.prog 77 #[ptr bb 0, .int .i64 p, .int .i64 i] w fun e w' => e = .returned (.bool (decide (r < 0))) ∧ Below w.heap.size w w' := by
 have c0 := hB.blk.cell 0
 have c1 := hB.blk.cell 1
 have lb := hB.blk.lt
 obtain ⟨ao, cap, rfl, hc1, hc2, hc3⟩ := hB.row.val
 obtain ⟨g, rfl, _, hg, hcell⟩ := hc3 (by omega)
 have hnx := nx_lt hi
 have k1 := hcell i _ (gH_at hi)
 have k2 := hcell (nx h.length i) _ (gH_at hnx)
 have x1 := gH_lt hN hi
 have x2 := gH_lt hN hnx
 obtain ⟨m, hm⟩ : ∃ m, h.length = m := ⟨_, rfl⟩
 obtain ⟨j, hj⟩ : ∃ j, nx h.length i = j := ⟨_, rfl⟩
 obtain ⟨y1, hy1⟩ : ∃ y, gH h i = y := ⟨_, rfl⟩
 obtain ⟨y2, hy2⟩ : ∃ y, gH h j = y := ⟨_, rfl⟩
 rw [hj] at hnx k2 x2 hr
 rw [hy2] at k2 x2 hr
 rw [hy1] at k1 x1 hr
 rw [hm] at hj hi hc1 hnx c1
 have hmod : Int.tmod ((i : Int) + 1) (m : Int) = (j : Int) := by
  rw [Int.tmod_eq_emod_of_nonneg (by omega), ← hj]; unfold nx; norm_cast
 have hm0 : ¬ m = 0 := by omega
 have HM := Lib.hid hM
 have HR := Lib.hid hr
 have hr3 : r = -1 ∨ r = 0 ∨ r = 1 := by rw [← hr]; exact wy_cases _ _ _ _ _
 clear hM hB hc3 hcell hN hm hj hy1 hy2 hr
 go_enter Try.func77, Try.ntmps77
 go_wp2_with fail
 refine wp_region_up w.heap.size 26 [(true, 0), (true, 1), (true, 2), (true, 3), (true, 4), (true, 5), (true, 6), (true, 7), (true, 8), (true, 9), (true, 10), (true, 11), (true, 12), (true, 13), (true, 14), (true, 15), (true, 16), (true, 17), (true, 18), (true, 19), (true, 20), (true, 21), (true, 22), (true, 23), (true, 24), (true, 25)] (by kernel_rfl) (by kernel_rfl) (fun _ _ d _ _ h => by cases d <;> exact h) ?_
 have hb : Below w.heap.size w w.drew := (Below.refl _ _).drew
 iterate 26
  first | refine wpS_takeL rfl rfl ?_ | refine wpS_takeB rfl rfl rfl ?_ | refine wpS_takeN rfl ⟨_, rfl⟩ ?_
  first | go_big_quiet_step (rfl) | (go_big_quiet_want; go_big_quiet_op; refine ⟨_, fun _ => rfl, ?_⟩; go_big_quiet_on)
  refine wpQuiet_nil ?_
 refine wpS_nil ?_
 simp only [List.drop_succ_cons, List.drop_zero]
 go_wp2_with fail
 refine (turn_st t D N X Y O n y1 y2 p r _ (HM.out.of hb) x1 x2 hp HR.out).mono ?_
 rintro e w2 ⟨rfl, hn⟩
 have hb2 := hb.trans (hn.mono hb.size)
 clear hn hb
 rcases hr3 with rfl | rfl | rfl
 all_goals
  go_wp2
  go_ret
  exact ⟨rfl, hb2⟩
end Go.Proofs.Ytdlpfiiakmhnlaa

namespace Go.Proofs.Ytdlpfiiakmhnlaa
open Go.RowKit

/-- the first points lie on one line -/
def isLn (N : Nat) (X Y : Nat → Int) (k : Nat) : Prop := min N 2 ≤ k ∧ k ≤ N ∧ (∀ i, 2 ≤ i → i < k → wy X Y 0 1 i = 0) ∧ (k < N → wy X Y 0 1 k ≠ 0)
set_option maxRecDepth 100000 in
set_option maxHeartbeats 2000000 in
theorem line_is (ao : Option Addr) (N cap : Nat) (X Y : Nat → Int) (w : World) (h : Pts w ao N cap X Y) (hN : N ≤ 4096) :
    Calls Try.prog 43 #[.slice ao N cap] w fun e w' => ∃ k : Nat, e = .returned (.int .i64 k) ∧ isLn N X Y k ∧ Below w.heap.size w w' := by
 have hcl := h.capl
 have hcb := h.capb
 have HO := Lib.hid h
 clear h
 by_cases hN2 : N ≤ 2
 ·go_enter Try.func43, Try.ntmps43
  go_wp2_with fail
  go_loopg [3] 0 (fun gk s3 wr => s3 = .int .i64 N ∧ Below w.heap.size w wr)
  case atStart => exact ⟨rfl, Below.refl _ _⟩
  case round =>
   obtain ⟨rfl, hb⟩ := hrel
   have hbk := hb
   go_wp2_with fail
   refine wp_region_up wr.heap.size 15 [(true, 0), (true, 1), (true, 2), (true, 3), (true, 4), (true, 5), (true, 6), (true, 7), (true, 8), (true, 9), (true, 10), (true, 11), (true, 12), (true, 13), (true, 14)] (by kernel_rfl) (by kernel_rfl) (fun _ _ d _ _ h => by cases d <;> exact h) ?_
   have hb : Below wr.heap.size wr wr.drew := (Below.refl _ _).drew
   iterate 15
    first | refine wpS_takeL rfl rfl ?_ | refine wpS_takeB rfl rfl rfl ?_
    first | go_big_quiet_step (rfl) | (go_big_quiet_want; go_big_quiet_op; refine ⟨_, fun _ => rfl, ?_⟩; go_big_quiet_on)
    refine wpQuiet_nil ?_
   refine wpS_nil ?_
   simp only [List.drop_succ_cons, List.drop_zero]
   go_wp2
   go_ret
   refine ⟨N, rfl, ⟨by omega, Nat.le_refl _, fun i h1 h2 => by omega, fun h => by omega⟩, hbk.drew⟩
 ·have h2n : (2 : Int) < N := by omega
  go_enter Try.func43, Try.ntmps43
  go_wp2_with fail
  go_loopg [3] N (fun gk s3 wr => ∃ k : Nat, s3 = .int .i64 k ∧ 2 ≤ k ∧ k ≤ N ∧ N - k ≤ gk ∧ Hid (∀ i, 2 ≤ i → i < k → wy X Y 0 1 i = 0) ∧ Below w.heap.size w wr)
  case atStart => exact ⟨2, rfl, Nat.le_refl _, by omega, by omega, Lib.hid (fun i h1 h2 => by omega), Below.refl _ _⟩
  case round =>
   obtain ⟨k, rfl, h2, hk, hg, HL, hb⟩ := hrel
   by_cases hlt : k < N
   ·obtain ⟨pa, rfl, hpt⟩ := (HO.out.of hb).atP (by omega)
    have qa := hpt 0 (by omega)
    have qb := hpt 1 (by omega)
    have qc := hpt k hlt
    obtain ⟨ax, hax⟩ : ∃ x, X 0 = x := ⟨_, rfl⟩
    obtain ⟨ay, hay⟩ : ∃ x, Y 0 = x := ⟨_, rfl⟩
    obtain ⟨bx, hbx⟩ : ∃ x, X 1 = x := ⟨_, rfl⟩
    obtain ⟨b_y, hby⟩ : ∃ x, Y 1 = x := ⟨_, rfl⟩
    obtain ⟨cx, hcx⟩ : ∃ x, X k = x := ⟨_, rfl⟩
    obtain ⟨cy, hcy⟩ : ∃ x, Y k = x := ⟨_, rfl⟩
    obtain ⟨r, hr⟩ : ∃ r, wy X Y 0 1 k = r := ⟨_, rfl⟩
    have hr3 : r = -1 ∨ r = 0 ∨ r = 1 := by rw [← hr]; exact wy_cases _ _ _ _ _
    have hw : way ax ay bx b_y cx cy = r := by rw [← hax, ← hay, ← hbx, ← hby, ← hcx, ← hcy]; exact hr
    rw [hax, hay] at qa
    rw [hbx, hby] at qb
    rw [hcx, hcy] at qc
    have e0 : pa.add (0 * 2) = pa := by unfold Addr.add; simp
    simp only [e0] at qa
    have e1 : pa.add (1 * 2) = { block := pa.block, off := pa.off + 2 } := rfl
    simp only [e1] at qb
    clear e0 e1
    have qa0 := fun u => (qa u).1
    have qa1 := fun u => (qa u).2
    have qb0 := fun u => (qb u).1
    have qb1 := fun u => (qb u).2
    have qc0 := fun u => (qc u).1
    have qc1 := fun u => (qc u).2
    have HW := Lib.hid hw
    have HR := Lib.hid hr
    clear hax hay hbx hby hcx hcy hpt qa qb qc hr hw
    have hbk := hb
    go_wp2_with fail
    refine wp_region_up wr.heap.size 15 [(true, 0), (true, 1), (true, 2), (true, 3), (true, 4), (true, 5), (true, 6), (true, 7), (true, 8), (true, 9), (true, 10), (true, 11), (true, 12), (true, 13), (true, 14)] (by kernel_rfl) (by kernel_rfl) (fun _ _ d _ _ h => by cases d <;> exact h) ?_
    have hb : Below wr.heap.size wr wr.drew := (Below.refl _ _).drew
    iterate 15
     first | refine wpS_takeL rfl rfl ?_ | refine wpS_takeB rfl rfl rfl ?_
     first | go_big_quiet_step (rfl) | (go_big_quiet_want; go_big_quiet_op; refine ⟨_, fun _ => rfl, ?_⟩; go_big_quiet_on)
     refine wpQuiet_nil ?_
    refine wpS_nil ?_
    simp only [List.drop_succ_cons, List.drop_zero]
    go_wp2_with fail
    refine (Turn_is ax ay bx b_y cx cy r HW.out _).mono ?_
    rintro e w2 ⟨rfl, hn⟩
    have hb2 := (hbk.trans (hb.mono hbk.size)).trans (hn.mono (hbk.trans (hb.mono hbk.size)).size)
    clear hn hb hbk qa0 qa1 qb0 qb1 qc0 qc1
    rcases hr3 with rfl | rfl | rfl
    ·go_wp2_with fail
     go_ret
     exact ⟨k, rfl, ⟨by omega, hk, HL.out, fun _ => by rw [HR.out]; decide⟩, hb2⟩
    ·go_wp2_with fail
     go_roundg (N - (k + 1))
     case measure => omega
     case rel =>
      refine ⟨k + 1, by norm_cast, by omega, by omega, Nat.le_refl _, Lib.hid (fun i h1 h3 => ?_), hb2⟩
      by_cases e : i = k
      ·subst e; exact HR.out
      ·exact HL.out i h1 (by omega)
    ·go_wp2_with fail
     go_ret
     exact ⟨k, rfl, ⟨by omega, hk, HL.out, fun _ => by rw [HR.out]; decide⟩, hb2⟩
   ·have hbk := hb
    go_wp2_with fail
    refine wp_region_up wr.heap.size 15 [(true, 0), (true, 1), (true, 2), (true, 3), (true, 4), (true, 5), (true, 6), (true, 7), (true, 8), (true, 9), (true, 10), (true, 11), (true, 12), (true, 13), (true, 14)] (by kernel_rfl) (by kernel_rfl) (fun _ _ d _ _ h => by cases d <;> exact h) ?_
    have hb : Below wr.heap.size wr wr.drew := (Below.refl _ _).drew
    iterate 15
     first | refine wpS_takeL rfl rfl ?_ | refine wpS_takeB rfl rfl rfl ?_
     first | go_big_quiet_step (rfl) | (go_big_quiet_want; go_big_quiet_op; refine ⟨_, fun _ => rfl, ?_⟩; go_big_quiet_on)
     refine wpQuiet_nil ?_
    refine wpS_nil ?_
    simp only [List.drop_succ_cons, List.drop_zero]
    go_wp2
    go_ret
    exact ⟨k, rfl, ⟨by omega, hk, HL.out, fun h => absurd h hlt⟩, hbk.drew⟩
end Go.Proofs.Ytdlpfiiakmhnlaa

namespace Go.Proofs.Ytdlpfiiakmhnlaa
open Go.RowKit

/-- a row of numbers by its places -/
def RowI (w : World) (g cap m : Nat) (f : Nat → Int) : Prop := ∃ cur, w.heap[g]? = some (.cells cur 3 (0, 0)) ∧ m ≤ cap ∧ cap ≤ maxLen ∧ cur.size = cap ∧ ∀ k, k < m → cur[k]? = some (.int .i64 (f k))
theorem RowI.cell {w : World} {g cap m : Nat} {f : Nat → Int} (h : RowI w g cap m f) {k : Nat} (hk : k < m) : w.cell? ⟨g, k, none⟩ = some (.int .i64 (f k)) := by
  obtain ⟨cur, h1, h2, h3, h4, h5⟩ := h
  rw [cell_row h1]; exact h5 k hk
theorem RowI.free {w : World} {g cap m : Nat} {f : Nat → Int} (h : RowI w g cap m f) (k : Nat) : w.frozen? ⟨g, k, none⟩ = false := by
  obtain ⟨cur, h1, _⟩ := h
  exact frozen_row h1 k
theorem RowI.drew {w : World} {g cap m : Nat} {f : Nat → Int} (h : RowI w g cap m f) : RowI w.drew g cap m f := h
theorem RowI.set {w : World} {g cap m : Nat} {f : Nat → Int} (h : RowI w g cap m f) {k : Nat} (_ : k < m) (x : Int) : RowI (w.setCell ⟨g, k, none⟩ (.int .i64 x)) g cap m (fun j => if j = k then x else f j) := by
  obtain ⟨cur, h1, h2, h3, h4, h5⟩ := h
  refine ⟨cur.setIfInBounds k (.int .i64 x), ?_, h2, h3, by simpa using h4, fun j hj => ?_⟩
  · rw [setCell_eq_setRow w g k cur _ _ _ h1]; exact setRow_heap w g cur _ _ _ h1
  · by_cases e : j = k
    · show (cur.setIfInBounds k _)[j]? = some (.int .i64 (if j = k then x else f j))
      rw [if_pos e, e, Array.getElem?_setIfInBounds]; simp; omega
    · show (cur.setIfInBounds k _)[j]? = some (.int .i64 (if j = k then x else f j))
      rw [if_neg e, Array.getElem?_setIfInBounds_ne (by omega)]; exact h5 j hj
theorem RowI.congr {w : World} {g cap m : Nat} {f f' : Nat → Int} (h : RowI w g cap m f) (e : ∀ k, k < m → f k = f' k) : RowI w g cap m f' := by
  obtain ⟨cur, h1, h2, h3, h4, h5⟩ := h
  exact ⟨cur, h1, h2, h3, h4, fun k hk => by rw [← e k hk]; exact h5 k hk⟩
theorem RowI.grown {w : World} {g : Nat} (k : Nat) (v : Value) : w.grownBy (w.setCell ⟨g, k, none⟩ v) (some g) := ⟨rfl, rfl, rfl, by simp [World.setCell], fun b _ hn => Below.heap_setCell w ⟨g, k, none⟩ v b (fun e => hn (by rw [e]))⟩
theorem grownBy.trans {w w' w'' : World} {r : Option Nat} (h : w.grownBy w' r) (k : w'.grownBy w'' r) : w.grownBy w'' r := ⟨k.os.trans h.os, k.tape.trans h.tape, k.output.trans h.output, Nat.le_trans h.size k.size, fun b hb hn => (k.block b (Nat.lt_of_lt_of_le hb h.size) hn).trans (h.block b hb hn)⟩
theorem grownBy.drew {w w' : World} {r : Option Nat} (h : w.grownBy w' r) : w.grownBy w'.drew r := ⟨h.os, h.tape, h.output, h.size, h.block⟩
def rv (m i : Nat) (f : Nat → Int) (k : Nat) : Int := if k < i ∨ m ≤ k + i then f (m - 1 - k) else f k
set_option maxRecDepth 100000 in
set_option maxHeartbeats 2000000 in
theorem Reverse_is (w : World) (g cap m : Nat) (f : Nat → Int) (h : RowI w g cap m f) (hm : m ≤ 4096) :
    Calls Try.prog 76 #[.slice (some ⟨g, 0, none⟩) m cap] w fun e w' => e = .returned (.tuple #[]) ∧ RowI w' g cap m (fun k => f (m - 1 - k)) ∧ w.grownBy w' (some g) := by
 have HR := Lib.hid h
 have hmc : m ≤ cap ∧ cap ≤ 9223372036854775807 := by obtain ⟨cur, h1, h2, h3, _⟩ := h; unfold maxLen at h3; omega
 clear h
 go_enter Try.func76, Try.ntmps76
 go_wp2_with fail
 go_loopg [2, 3] m (fun gk s2 s3 wr => ∃ (i : Nat) (j : Int), s2 = .int .i64 i ∧ s3 = .int .i64 j ∧ j = (m : Int) - 1 - i ∧ 2 * i ≤ m ∧ m - i ≤ gk ∧ Hid (RowI wr g cap m (rv m i f)) ∧ Hid (w.grownBy wr (some g)))
 case atStart => exact ⟨0, _, rfl, rfl, by omega, by omega, by omega, Lib.hid (HR.out.congr fun k hk => by unfold rv; rw [if_neg (by omega)]), Lib.hid ⟨rfl, rfl, rfl, Nat.le_refl _, fun _ _ _ => rfl⟩⟩
 case round =>
  obtain ⟨i, j, rfl, rfl, hj, hi, hg, HW, HG⟩ := hrel
  by_cases hlt : (i : Int) < j
  ·obtain ⟨j', rfl⟩ : ∃ j' : Nat, j = j' := ⟨j.toNat, by omega⟩
   have hjm : j' < m := by omega
   have him : i < m := by omega
   obtain ⟨x, hx⟩ : ∃ x, rv m i f i = x := ⟨_, rfl⟩
   obtain ⟨y, hy⟩ : ∃ x, rv m i f j' = x := ⟨_, rfl⟩
   have ci := HW.out.cell him
   have cj := HW.out.cell hjm
   rw [hx] at ci
   rw [hy] at cj
   have fi := HW.out.free i
   have fj := HW.out.free j'
   have hne : i ≠ j' := by omega
   have HX := Lib.hid (And.intro hx hy)
   have HJ := Lib.hid hj
   clear hx hy HR hj
   go_wp2_with fail
   go_region
   all_goals
    have HE := Lib.hid (((HW.out.set him y).set hjm x).drew.congr (f' := rv m (i + 1) f) fun k hk => by
     have hj := HJ.out
     have e1 := HX.out.1
     have e2 := HX.out.2
     unfold rv at e1 e2
     rw [if_neg (by omega)] at e1 e2
     show (if k = j' then x else if k = i then y else rv m i f k) = _
     by_cases k1 : k = j'
     ·rw [if_pos k1, ← e1]; unfold rv; rw [if_pos (by omega)]; congr 1; omega
     ·by_cases k2 : k = i
      ·rw [if_neg k1, if_pos k2, ← e2]; unfold rv; rw [if_pos (by omega)]; congr 1; omega
      ·rw [if_neg k1, if_neg k2]; unfold rv
       by_cases k3 : k < i ∨ m ≤ k + i
       ·rw [if_pos k3, if_pos (by omega)]
       ·rw [if_neg k3, if_neg (by omega)])
    have HF := Lib.hid (grownBy.drew (grownBy.trans (grownBy.trans HG.out (RowI.grown (g := g) i (.int .i64 y))) (RowI.grown (g := g) j' (.int .i64 x))))
    go_wp2_with fail
    go_roundg (m - (i + 1))
    case measure => omega
    case rel => exact ⟨i + 1, (j' : Int) - 1, by norm_cast, by rfl, by have := HJ.out; omega, by have := HJ.out; omega, by omega, HE, HF⟩
  ·have hre : RowI wr g cap m (fun k => f (m - 1 - k)) := HW.out.congr fun k hk => by
    unfold rv
    split
    ·rfl
    ·congr 1; omega
   have HE := Lib.hid hre
   clear hre HR HW
   go_wp2_with fail
   simp [bodyPost, results, Try.results76, go_sem]
   exact ⟨HE.out, HG.out⟩
end Go.Proofs.Ytdlpfiiakmhnlaa

namespace Go.Proofs.Ytdlpfiiakmhnlaa
open Go.RowKit

abbrev Tri3 := Nat × Nat × Nat
def putAll (O : Nat → List (Nat × Nat)) : List Tri3 → Nat → List (Nat × Nat)
  | [] => O
  | t :: l => putAll (putT O t.1 t.2.1 t.2.2) l
/-- may the triangles be put, one behind the other? -/
def PutOk (N : Nat) : (Nat → List (Nat × Nat)) → List Tri3 → Prop
  | _, [] => True
  | O, t :: l => (t.1 < N ∧ t.2.1 < N ∧ t.2.2 < N ∧ t.1 ≠ t.2.1 ∧ t.2.1 ≠ t.2.2 ∧ t.1 ≠ t.2.2 ∧ lookH (O t.1) t.2.1 = none ∧ lookH (O t.2.1) t.2.2 = none ∧ lookH (O t.2.2) t.1 = none) ∧ PutOk N (putT O t.1 t.2.1 t.2.2) l
theorem putAll_app (O : Nat → List (Nat × Nat)) : ∀ (l m : List Tri3), putAll O (l ++ m) = putAll (putAll O l) m := by
  intro l
  induction l generalizing O with
  | nil => intro m; rfl
  | cons t l ih => intro m; exact ih _ m
theorem putOk_app (N : Nat) (O : Nat → List (Nat × Nat)) : ∀ (l m : List Tri3), PutOk N O (l ++ m) ↔ PutOk N O l ∧ PutOk N (putAll O l) m := by
  intro l
  induction l generalizing O with
  | nil => intro m; exact ⟨fun h => ⟨trivial, h⟩, fun h => h.2⟩
  | cons t l ih =>
    intro m
    show (_ ∧ PutOk N _ (l ++ m)) ↔ (_ ∧ PutOk N _ l) ∧ PutOk N (putAll _ l) m
    rw [ih]
    constructor
    · rintro ⟨a, b, c⟩; exact ⟨⟨a, b⟩, c⟩
    · rintro ⟨⟨a, b⟩, c⟩; exact ⟨a, b, c⟩
/-- store and builder, all from B on -/
structure BS (B : Nat) (w : World) (bb t : Nat) (D : SD) (hv : Value) (N : Nat) (X Y : Nat → Int) (O : Nat → List (Nat × Nat)) (n : Int) (h : List Nat) : Prop where
  sm : SM w t D N X Y O n
  bm : BM w bb t B hv h
  dB : ∀ g, D.has t N g → B ≤ g
  bB : B ≤ bb
theorem NL.typ {w : World} {base : Nat} {v : Value} {L : List Nat} (h : NL w base v L) {g : Nat} (hg : v.ownBlock = some g) : ∃ cur, w.heap[g]? = some (.cells cur 3 (0, 0)) ∧ base ≤ g := by
  rcases h.2 with ⟨e, _⟩ | ⟨g', cap, cur', e, hb, hh, _⟩
  · rw [e] at hg; cases hg
  · rw [e] at hg; cases hg; exact ⟨cur', hh, hb⟩
theorem NL.fr {w w' : World} {base : Nat} {v : Value} {L : List Nat} {S : Nat → Prop} (h : NL w base v L) (hg : Fr w w' S) (hne : ∀ g, v.ownBlock = some g → ¬ S g) : NL w' base v L := by
  refine ⟨h.1, h.2.imp id ?_⟩
  rintro ⟨g, cap, cur, rfl, hbg, hh, r⟩
  exact ⟨g, cap, cur, rfl, hbg, (hg.block _ (Array.getElem?_eq_some_iff.1 hh).1 (hne g rfl)).trans hh, r⟩
theorem BS.of {B : Nat} {w w' : World} {bb t : Nat} {D : SD} {hv : Value} {N : Nat} {X Y : Nat → Int} {O : Nat → List (Nat × Nat)} {n : Int} {h : List Nat} (hb : BS B w bb t D hv N X Y O n h) (hl : Below w.heap.size w w') : BS B w' bb t D hv N X Y O n h :=
  ⟨hb.sm.of hl, hb.bm.of hl, hb.dB, hb.bB⟩
theorem BS.size {B : Nat} {w : World} {bb t : Nat} {D : SD} {hv : Value} {N : Nat} {X Y : Nat → Int} {O : Nat → List (Nat × Nat)} {n : Int} {h : List Nat} (hb : BS B w bb t D hv N X Y O n h) : B ≤ w.heap.size := Nat.le_trans hb.bB (Nat.le_of_lt hb.bm.blk.lt)
/-- a triangle is put -/
theorem BS.put {B : Nat} {w : World} {bb t : Nat} {D : SD} {hv : Value} {N : Nat} {X Y : Nat → Int} {O : Nat → List (Nat × Nat)} {n : Int} {h : List Nat} (hb : BS B w bb t D hv N X Y O n h) (a b c : Nat)
    (hk : a < N ∧ b < N ∧ c < N ∧ a ≠ b ∧ b ≠ c ∧ a ≠ c ∧ lookH (O a) b = none ∧ lookH (O b) c = none ∧ lookH (O c) a = none) (hn : 0 ≤ n ∧ n < 1000000000) :
    Calls Try.prog 72 #[ptr t 0, tI a b c] w fun e w' => e = .returned (.tuple #[]) ∧ ∃ D', BS B w' bb t D' hv N X Y (putT O a b c) (n + 1) h ∧ Below B w w' := by
  obtain ⟨k1, k2, k3, k4, k5, k6, k7, k8, k9⟩ := hk
  refine (put_is t D N X Y O n a b c w hb.sm k1 k2 k3 k4 k5 k6 k7 k8 k9 hn).mono ?_
  rintro e w' ⟨rfl, D', hs, hf, hh, _⟩
  refine ⟨rfl, D', ⟨hs, ⟨hf.blk hb.bm.blk (hb.sm.notHas hb.bm.blk (by decide) (by decide) (by decide)), hb.bm.row.fr hf fun g hg => ?_⟩, fun g hg => ?_, hb.bB⟩, hf.below hb.size hb.dB⟩
  · obtain ⟨cur, hc, _⟩ := hb.bm.row.typ hg
    exact hb.sm.notHas hc (by decide) (by decide) (by decide)
  · rcases hh g hg with h4 | h4
    · exact hb.dB g h4
    · exact Nat.le_trans hb.size h4
/-- the hull is set anew -/
theorem BS.hull {B : Nat} {w w1 : World} {bb t : Nat} {D : SD} {hv : Value} {N : Nat} {X Y : Nat → Int} {O : Nat → List (Nat × Nat)} {n : Int} {h : List Nat} (hb : BS B w bb t D hv N X Y O n h) {v' : Value} {h' : List Nat}
    (hr : NL w1 B v' h') (hg : w.grownBy w1 hv.ownBlock) : BS B (w1.setCell ⟨bb, 1, none⟩ v') bb t D v' N X Y O n h' ∧ Below B w (w1.setCell ⟨bb, 1, none⟩ v') := by
  have hf : Fr w w1 (fun b => hv.ownBlock = some b) := ⟨hg.os, hg.tape, hg.output, hg.size, fun k hk hn => hg.block k hk (fun e => hn e.symm)⟩
  have hf2 : Fr w1 (w1.setCell ⟨bb, 1, none⟩ v') (fun b => b = bb) := ⟨rfl, rfl, rfl, by simp [World.setCell], fun k _ hn => Below.heap_setCell w1 ⟨bb, 1, none⟩ v' k hn⟩
  have hnb : hv.ownBlock ≠ some bb := fun e => by
    obtain ⟨cur, hc, _⟩ := hb.bm.row.typ e
    have hk := hb.bm.blk
    rw [show w.heap[bb]? = _ from hk] at hc; injection hc with hc; injection hc with _ h3; exact absurd h3 (by decide)
  have hbb1 : Blk w1 bb #[ptr t 0, hv] 89 := hf.blk hb.bm.blk hnb
  have hS : ∀ b, D.has t N b → hv.ownBlock ≠ some b ∧ b ≠ bb := fun b hD => by
    refine ⟨fun e => ?_, fun e => ?_⟩
    · obtain ⟨cur, hc, _⟩ := hb.bm.row.typ e
      exact hb.sm.notHas hc (by decide) (by decide) (by decide) hD
    · subst e; exact hb.sm.notHas hb.bm.blk (by decide) (by decide) (by decide) hD
  have hP : ∀ a, D.po = some a → 0 < N → hv.ownBlock ≠ some a.block ∧ a.block ≠ bb := fun a ha h0 => by
    obtain ⟨a', cur, h1, h2⟩ := hb.sm.pty h0
    rw [ha] at h1; injection h1 with h1; subst h1
    refine ⟨fun e => ?_, fun e => ?_⟩
    · obtain ⟨cur', hc, _⟩ := hb.bm.row.typ e
      rw [h2] at hc; injection hc with hc; injection hc with _ h3; exact absurd h3 (by decide)
    · have hk := hb.bm.blk
      rw [e, show w.heap[bb]? = _ from hk] at h2; injection h2 with h2; injection h2 with _ h3; exact absurd h3 (by decide)
  have s1 := hb.sm.fr hf (fun b hD => (hS b hD).1) (fun a ha h0 => (hP a ha h0).1)
  have s2 := s1.fr hf2 (fun b hD => (hS b hD).2) (fun a ha h0 => (hP a ha h0).2)
  refine ⟨⟨s2, ⟨hbb1.put 1 v', hr.fr hf2 fun g hg' e => ?_⟩, hb.dB, hb.bB⟩, ?_⟩
  · obtain ⟨cur, hc, _⟩ := hr.typ hg'
    rw [e, show w1.heap[bb]? = _ from hbb1] at hc; injection hc with hc; injection hc with _ h3; exact absurd h3 (by decide)
  · refine (hf.below hb.size fun k hk => ?_).trans (hf2.below (Nat.le_trans hb.size hg.size) fun k hk => by rw [hk]; exact hb.bB)
    obtain ⟨cur, _, hk2⟩ := hb.bm.row.typ hk
    exact hk2
end Go.Proofs.Ytdlpfiiakmhnlaa

namespace Go.Proofs.Ytdlpfiiakmhnlaa
open Go.RowKit

theorem putOk_step {N : Nat} {O : Nat → List (Nat × Nat)} {l : List Tri3} {k : Nat} (h : PutOk N (putAll O (l.take k)) (l.drop k)) {x : Tri3} (hx : l[k]? = some x) :
    (x.1 < N ∧ x.2.1 < N ∧ x.2.2 < N ∧ x.1 ≠ x.2.1 ∧ x.2.1 ≠ x.2.2 ∧ x.1 ≠ x.2.2 ∧ lookH (putAll O (l.take k) x.1) x.2.1 = none ∧ lookH (putAll O (l.take k) x.2.1) x.2.2 = none ∧ lookH (putAll O (l.take k) x.2.2) x.1 = none) ∧
    putAll O (l.take (k + 1)) = putT (putAll O (l.take k)) x.1 x.2.1 x.2.2 ∧ PutOk N (putAll O (l.take (k + 1))) (l.drop (k + 1)) := by
  obtain ⟨hk, rfl⟩ := List.getElem?_eq_some_iff.1 hx
  have e1 : l.drop k = l[k] :: l.drop (k + 1) := List.drop_eq_getElem_cons hk
  have e2 : putAll O (l.take (k + 1)) = putT (putAll O (l.take k)) l[k].1 l[k].2.1 l[k].2.2 := by
    rw [List.take_succ_eq_append_getElem hk, putAll_app]; rfl
  rw [e1] at h
  exact ⟨h.1, e2, by rw [e2]; exact h.2⟩
theorem int_src {w : World} {vb x : Nat} (h : Blk w vb #[.int .i64 (x : Nat)] 3) (j : Nat) (u : Value) (hj : [Value.int .i64 (x : Int)][j]? = some u) : w.cell? ((⟨vb, 0, none⟩ : Addr).add j) = some u := by
  rw [add_pl, Nat.zero_add, h.cell j, ← hj, ← Array.getElem?_toList]
theorem int_one (b : Int) : ∀ u ∈ [Value.int .i64 b], u.oneCell' = true := by
  intro u hu; simp at hu; subst hu; rfl
/-- one number more: the append of a hull -/
theorem wpList_append_nl {w : World} {ops : Array Oper} {rest : List Oper} {o : Oper} {a : Act} {Q : Exit → Act → World → Prop} (hgd : o.guard = none) (s x : Operand)
    (ho : o.op = .call { callee := .builtin .append, args := #[s, x], argTypes := #[29, 29] })
    (base : Nat) (v : Value) (L : List Nat) (y : Nat) (vb : Nat) (hs : a.eval s = v) (hx : a.eval x = .slice (some ⟨vb, 0, none⟩) 1 1) (hb : Blk w vb #[.int .i64 (y : Nat)] 3)
    (hnl : NL w base v L) (hL : L.length < 100000) (hbase : base ≤ w.heap.size)
    (h : ∀ ao n cap w', NL w' base (.slice ao n cap) (L ++ [y]) → w.grownBy w' v.ownBlock → wpList Try.prog ops Q rest (a.put o.dst (.slice ao n cap)) w') : wpList Try.prog ops Q (o :: rest) a w := by
  obtain ⟨i0, hi, hz0, hz1, hz2⟩ := info_parts info_int
  refine wpList_append_lies w hgd s x 29 ho base 3 i0 (.int .i64 0) 1 8 Try.underlying29 hi hz0 hz1 hz2 rfl (by decide) v L.length _ hs hnl ⟨vb, 0, none⟩ 1 1 [.int .i64 y] hx rfl (int_src hb) (int_one _) (by unfold maxLen; omega) (by omega) hbase ?_
  intro v' w' own gr _
  have hn : NL w' base v' (L ++ [y]) := by
    unfold NL
    rw [List.length_append, List.map_append]; exact own
  obtain ⟨ao, cap, rfl, _⟩ := hn.val
  exact h ao _ cap w' hn gr
theorem NL.rowI {w : World} {base g cap n : Nat} {L : List Nat} (h : NL w base (.slice (some ⟨g, 0, none⟩) n cap) L) : RowI w g cap n (fun k => (gH L k : Nat)) ∧ base ≤ g ∧ n = L.length := by
  rcases h.2 with ⟨e, _⟩ | ⟨g', cap', cur, e, hb, hh, h1, h2, h3, h4⟩
  · cases e
  · injection e with e1 e2 e3
    injection e1 with e1; injection e1 with e1
    subst e1; subst e3
    subst e2
    refine ⟨⟨cur, hh, h1, h2, by omega, fun k hk => ?_⟩, hb, rfl⟩
    rw [Nat.mul_one] at h4
    have : (L.map fun x => Value.int .i64 (x : Nat))[k]? = some (.int .i64 (gH L k : Nat)) := by rw [List.getElem?_map, gH_at hk]; rfl
    rw [← h4, List.getElem?_take_of_lt hk, Array.getElem?_toList] at this
    exact this
theorem RowI.nl {w : World} {base g cap : Nat} {f : Nat → Int} {L : List Nat} (h : RowI w g cap L.length f) (hb : base ≤ g) (hf : ∀ k, k < L.length → f k = (gH L k : Nat)) : NL w base (.slice (some ⟨g, 0, none⟩) L.length cap) L := by
  obtain ⟨cur, h1, h2, h3, h4, h5⟩ := h
  refine ⟨by simp, .inr ⟨g, cap, cur, rfl, hb, h1, h2, h3, by omega, ?_⟩⟩
  rw [Nat.mul_one]
  apply List.ext_getElem?
  intro k
  by_cases hk : k < L.length
  · rw [List.getElem?_take_of_lt hk, Array.getElem?_toList, h5 k hk, hf k hk, List.getElem?_map, gH_at hk]; rfl
  · rw [List.getElem?_eq_none (by simp; omega), List.getElem?_eq_none (by simp; omega)]
theorem gH_rev (L : List Nat) {k : Nat} (hk : k < L.length) : gH L.reverse k = gH L (L.length - 1 - k) := by
  have h1 := gH_at (h := L.reverse) (i := k) (by simpa using hk)
  have h2 := gH_at (h := L) (i := L.length - 1 - k) (by omega)
  rw [List.getElem?_reverse hk, h2] at h1
  injection h1 with h1; exact h1.symm
/-- the hull is reversed in its place -/
theorem BS.rev {B : Nat} {w w1 : World} {bb t : Nat} {D : SD} {g n' cap : Nat} {N : Nat} {X Y : Nat → Int} {O : Nat → List (Nat × Nat)} {n : Int} {h : List Nat} (hb : BS B w bb t D (.slice (some ⟨g, 0, none⟩) n' cap) N X Y O n h)
    (hr : RowI w1 g cap n' (fun k => (gH h (n' - 1 - k) : Nat))) (hg : w.grownBy w1 (some g)) : BS B w1 bb t D (.slice (some ⟨g, 0, none⟩) n' cap) N X Y O n h.reverse ∧ Below B w w1 := by
  obtain ⟨_, hbg, e⟩ := hb.bm.row.rowI
  subst e
  have hf : Fr w w1 (fun b => b = g) := ⟨hg.os, hg.tape, hg.output, hg.size, fun k hk hn => hg.block k hk (fun e => hn (by injection e))⟩
  obtain ⟨cur, hc, _⟩ := hb.bm.row.typ (g := g) rfl
  have hnb : bb ≠ g := fun e => by
    have hk := hb.bm.blk
    rw [← e, show w.heap[bb]? = _ from hk] at hc; injection hc with hc; injection hc with _ h3; exact absurd h3 (by decide)
  have s1 := hb.sm.fr hf (fun b hD e => hb.sm.notHas hc (by decide) (by decide) (by decide) (e ▸ hD)) (fun a ha h0 e => by
    obtain ⟨a', cu, h1, h2⟩ := hb.sm.pty h0
    rw [ha] at h1; injection h1 with h1; subst h1
    rw [e, hc] at h2; injection h2 with h2; injection h2 with _ h3; exact absurd h3 (by decide))
  have hrl : RowI w1 g cap h.reverse.length (fun k => (gH h (h.length - 1 - k) : Nat)) := by rw [List.length_reverse]; exact hr
  refine ⟨⟨s1, ⟨hf.blk hb.bm.blk hnb, ?_⟩, hb.dB, hb.bB⟩, hf.below hb.size fun k hk => by rw [hk]; exact hbg⟩
  have := hrl.nl (base := B) hbg (fun k hk => by rw [gH_rev h (by simpa using hk)])
  rw [List.length_reverse] at this
  exact this
end Go.Proofs.Ytdlpfiiakmhnlaa

namespace Go.Proofs.Ytdlpfiiakmhnlaa
open Go.RowKit

def begH (X Y : Nat → Int) (q : Nat) : List Nat := if wy X Y 0 1 q < 0 then (List.range q).reverse else List.range q
def begT (h : List Nat) (q : Nat) : List Tri3 := (List.range (q - 1)).map fun i => (gH h i, gH h (i + 1), q)
theorem begT_at (h : List Nat) (q k : Nat) (hk : k < q - 1) : (begT h q)[k]? = some (gH h k, gH h (k + 1), q) := by
  unfold begT
  rw [List.getElem?_map, List.getElem?_range hk]; rfl
theorem begT_len (h : List Nat) (q : Nat) : (begT h q).length = q - 1 := by unfold begT; simp
theorem begH_len (X Y : Nat → Int) (q : Nat) : (begH X Y q).length = q := by unfold begH; split <;> simp
theorem BS.bbAt {B : Nat} {w w1 : World} {bb t : Nat} {D : SD} {hv : Value} {N : Nat} {X Y : Nat → Int} {O : Nat → List (Nat × Nat)} {n : Int} {h : List Nat} (hb : BS B w bb t D hv N X Y O n h) (hg : w.grownBy w1 hv.ownBlock) : Blk w1 bb #[ptr t 0, hv] 89 := by
  have hnb : hv.ownBlock ≠ some bb := fun e => by
    obtain ⟨cur, hc, _⟩ := hb.bm.row.typ e
    have hk := hb.bm.blk
    rw [show w.heap[bb]? = _ from hk] at hc; injection hc with hc; injection hc with _ h3; exact absurd h3 (by decide)
  exact (hg.block _ hb.bm.blk.lt (fun e => hnb e.symm)).trans hb.bm.blk
set_option maxRecDepth 100000 in
set_option maxHeartbeats 4000000 in
theorem begin_is (B : Nat) (bb t : Nat) (D : SD) (N : Nat) (X Y : Nat → Int) (O : Nat → List (Nat × Nat)) (q : Nat) (w : World) (h0 : BS B w bb t D (.slice none 0 0) N X Y O 0 []) (hq : 2 ≤ q) (hqN : q < N) (hP : PutOk N O (begT (begH X Y q) q)) :
    Calls Try.prog 44 #[ptr bb 0, .int .i64 q] w fun e w' => e = .returned (.tuple #[]) ∧ ∃ D' hv', BS B w' bb t D' hv' N X Y (putAll O (begT (begH X Y q) q)) ((q : Int) - 1) (begH X Y q ++ [q]) ∧ Below B w w' := by
 have H0 := Lib.hid h0
 have HP := Lib.hid hP
 have hN := h0.sm.small
 clear h0 hP
 go_enter Try.func44, Try.ntmps44
 go_wp2_with fail
 go_loopg [7] q (fun gk s7 wr => ∃ (k : Nat) (ao : Option Addr) (m cap : Nat), s7 = .int .i64 k ∧ k ≤ q ∧ q - k ≤ gk ∧ Hid (BS B wr bb t D (.slice ao m cap) N X Y O 0 (List.range k)) ∧ Hid (Below B w wr))
 case atStart => exact ⟨0, none, 0, 0, rfl, Nat.zero_le _, by omega, H0, Lib.hid (Below.refl _ _)⟩
 case round =>
  clear H0
  obtain ⟨k, ao, m, cap, rfl, hk, hg, HB, HW⟩ := hrel
  by_cases hlt : k < q
  ·have c0 := HB.out.bm.blk.cell 0
   have c1 := HB.out.bm.blk.cell 1
   have lb := HB.out.bm.blk.lt
   have hsz := HB.out.size
   go_wp2_with (at_builtin; refine wpList_append_nl rfl _ _ rfl B (.slice ao m cap) (List.range k) k wr.heap.size rfl rfl (Blk.new wr _ _) (HB.out.bm.row.of (below_a1 _ _)) ?c1 ?c2 ?_)
   case c1 => simp; omega
   case c2 => simp; omega
   intro ao' m' cap' w2 hn2 hg2
   have HB1 := Lib.hid (HB.out.of (below_a1 wr (.cells #[.int .i64 (k : Nat)] 3)))
   have kb := HB1.out.bbAt hg2
   have hbu := HB1.out.hull hn2 hg2
   rw [← List.range_succ] at hbu
   have HB2 := Lib.hid hbu.1
   have HW2 := Lib.hid (HW.out.trans (((below_a1 wr (.cells #[.int .i64 (k : Nat)] 3)).mono hsz).trans hbu.2))
   have k0 := kb.cell 0
   have k1 := kb.cell 1
   have f1 := kb.free 1
   clear hn2 hg2 hbu HB HW HB1 kb c0 c1 lb hsz
   go_wp2_with fail
   go_roundg (q - (k + 1))
   case measure => omega
   case rel => exact ⟨k + 1, ao', m', cap', by norm_cast, by omega, Nat.le_refl _, HB2, HW2⟩
  ·have hkq : k = q := by omega
   subst hkq
   clear hlt hk hg
   have c0 := HB.out.bm.blk.cell 0
   obtain ⟨r, hr⟩ : ∃ r, wy X Y 0 1 k = r := ⟨_, rfl⟩
   have HR := Lib.hid hr
   have hr3 : r = -1 ∨ r = 0 ∨ r = 1 := by rw [← hr]; exact wy_cases _ _ _ _ _
   clear hr
   go_wp2_with fail
   refine (turn_st t D N X Y O 0 0 1 k r wr HB.out.sm (by omega) (by omega) hqN HR.out).mono ?_
   rintro e w2 ⟨rfl, hn2⟩
   have HB2 := Lib.hid (HB.out.of hn2)
   have HW2 := Lib.hid (HW.out.trans (hn2.mono HB.out.size))
   clear hn2 HB HW c0
   -- SECOND HALF
   rcases (show r = -1 ∨ (r = 0 ∨ r = 1) by omega) with rfl | hr2
   ·have HBH := Lib.hid (show begH X Y k = (List.range k).reverse by unfold begH; rw [if_pos (by rw [HR.out]; decide)])
    obtain ⟨ao', cap', hv, hc1, hc2, hc3⟩ := HB2.out.bm.row.val
    rw [List.length_range] at hv hc1 hc3
    obtain ⟨g, hao, _, _, _⟩ := hc3 (by omega)
    injection hv with e1 e2 e3
    replace e2 := e2.symm; subst e1; subst e2; subst e3; subst hao
    have c1 := HB2.out.bm.blk.cell 1
    clear hc3
    go_wp2_with fail
    have hrow := HB2.out.bm.row.rowI.1
    refine (Reverse_is w2 g _ _ _ hrow (by omega)).mono ?_
    rintro e w3 ⟨rfl, hr3', hg3⟩
    have hre := HB2.out.rev hr3' hg3
    rw [← HBH.out] at hre
    have HB3 := Lib.hid hre.1
    have HW3 := Lib.hid (HW2.out.trans hre.2)
    clear hre hr3' hg3 HB2 HW2 c1 HBH hr3 hrow
    replace HB3 := Lib.hid (⟨_, _, _, HB3.out⟩ : ∃ ao m cap, BS B w3 bb t D (.slice ao m cap) N X Y O 0 (begH X Y k))
    obtain ⟨ao, m, cap, HB3⟩ := HB3.out
    replace HB3 := Lib.hid HB3
    have hbl := begH_len X Y k
    obtain ⟨H, hH⟩ : ∃ H, begH X Y k = H := ⟨_, rfl⟩
    rw [hH] at hbl HB3
    have HH := Lib.hid hH
    obtain ⟨l, hl⟩ : ∃ l, begT H k = l := ⟨_, rfl⟩
    have HL := Lib.hid hl
    have HP2 : Hid (PutOk N O l) := by refine Lib.hid ?_; rw [← hl, ← hH]; exact HP.out
    have hll : l.length = k - 1 := by rw [← hl]; exact begT_len H k
    have HN : Hid (∀ x, x ∈ H → x < N) := by
     refine Lib.hid fun x hx => ?_
     rw [← hH] at hx
     unfold begH at hx
     split at hx
     ·have := List.mem_range.1 (List.mem_reverse.1 hx); omega
     ·have := List.mem_range.1 hx; omega
    clear hH hl HP
    go_wp2_with fail
    go_loopg [5] k (fun gk s5 wr => ∃ (i : Nat) (D2 : SD), s5 = .int .i64 ((i : Int) + 1) ∧ i + 1 ≤ k ∧ k - 1 - i ≤ gk ∧ Hid (BS B wr bb t D2 (.slice ao m cap) N X Y (putAll O (l.take i)) i H) ∧ Hid (PutOk N (putAll O (l.take i)) (l.drop i)) ∧ Hid (Below B w wr))
    case atStart => exact ⟨0, D, by rfl, by omega, by omega, HB3, HP2, HW3⟩
    case round =>
     clear HB3 HW3 HP2
     obtain ⟨i, D2, rfl, hi, hg, HB, HP, HW⟩ := hrel
     obtain ⟨ao', cap', hv, hc1, hc2, hc3⟩ := HB.out.bm.row.val
     obtain ⟨g, hao, _, hgl, hcell⟩ := hc3 (by omega)
     injection hv with e1 e2 e3
     rw [hbl] at e2 hc1
     replace e2 := e2.symm; subst e1; subst e2; subst e3; subst hao
     by_cases hlt : i + 1 < k
     ·have hx := HP.out
      have hst := putOk_step HP.out (x := (gH H i, gH H (i + 1), k)) (by rw [← HL.out]; exact begT_at H k i (by omega))
      have HST := Lib.hid hst
      have c0 := HB.out.bm.blk.cell 0
      have c1 := HB.out.bm.blk.cell 1
      have lb := HB.out.bm.blk.lt
      have k1 := hcell i _ (gH_at (by omega))
      have k2 := hcell (i + 1) _ (gH_at (by omega))
      obtain ⟨y1, hy1⟩ : ∃ y, gH H i = y := ⟨_, rfl⟩
      obtain ⟨y2, hy2⟩ : ∃ y, gH H (i + 1) = y := ⟨_, rfl⟩
      rw [hy1] at k1 HST
      rw [hy2] at k2 HST
      clear hx hst hc3 hcell hy1 hy2 HP
      go_wp2_with fail
      refine wp_region_up wr.heap.size 21 [(true, 0), (true, 1), (true, 2), (true, 3), (true, 4), (true, 5), (true, 6), (true, 7), (true, 8), (true, 9), (true, 10), (true, 11), (true, 12), (true, 13), (true, 14), (true, 15), (true, 16), (true, 17), (true, 18), (true, 19), (true, 20)] (by kernel_rfl) (by kernel_rfl) (fun _ _ d _ _ h => by cases d <;> exact h) ?_
      have hb : Below wr.heap.size wr wr.drew := (Below.refl _ _).drew
      iterate 21
       first | refine wpS_takeL rfl rfl ?_ | refine wpS_takeN rfl ⟨_, rfl⟩ ?_
       go_big_quiet_step (rfl)
       refine wpQuiet_nil ?_
      refine wpS_nil ?_
      simp only [List.drop_succ_cons, List.drop_zero]
      go_wp2_with fail
      refine ((HB.out.of hb).put y1 y2 k HST.out.1 (by omega)).mono ?_
      rintro e w4 ⟨rfl, D4, hB4, hl4⟩
      rw [← HST.out.2.1] at hB4
      have HB4 := Lib.hid hB4
      have HW4 := Lib.hid ((HW.out.trans (hb.mono HB.out.size)).trans hl4)
      clear hB4 hl4 hb HB HW c0 c1 k1 k2 lb
      go_wp2_with fail
      go_roundg (k - 1 - (i + 1))
      case measure => omega
      case rel => exact ⟨i + 1, D4, by norm_cast, by omega, Nat.le_refl _, HB4, HST.out.2.2, HW4⟩
     ·have hik : k = i + 1 := Nat.le_antisymm (Nat.le_of_not_lt hlt) hi
      have hlt' : l.take i = l := List.take_of_length_le (by rw [hll, hik]; exact Nat.le_refl _)
      have hBB := HB.out
      have HIK := Lib.hid hik
      rw [hlt'] at hBB
      have HB5 := Lib.hid hBB
      clear hBB hlt' HP HB hc3 hcell hik
      have c0 := HB5.out.bm.blk.cell 0
      have c1 := HB5.out.bm.blk.cell 1
      have lb := HB5.out.bm.blk.lt
      have hsz := HB5.out.size
      have hki : ¬ ((i : Int) + 1 < (k : Int)) := fun h => hlt (by exact_mod_cast h)
      go_wp2_with (at_builtin; refine wpList_append_nl rfl _ _ rfl B (.slice (some ⟨g, 0, none⟩) k cap) H k wr.heap.size rfl rfl (Blk.new wr _ _) (HB5.out.bm.row.of (below_a1 _ _)) ?c1 ?c2 ?_)
      case c1 => omega
      case c2 => exact Nat.le_succ_of_le hsz
      intro ao' m' cap' w2_ hn2 hg2
      have HB1 := Lib.hid (HB5.out.of (below_a1 wr (.cells #[.int .i64 (k : Nat)] 3)))
      have kb := HB1.out.bbAt hg2
      have hbu := HB1.out.hull hn2 hg2
      have HB6 := Lib.hid hbu.1
      have HW6 := Lib.hid (HW.out.trans (((below_a1 wr (.cells #[.int .i64 (k : Nat)] 3)).mono hsz).trans hbu.2))
      have k0 := kb.cell 0
      have k1 := kb.cell 1
      have f1 := kb.free 1
      clear hn2 hg2 hbu HB5 HW HB1 kb c0 c1 lb hsz
      go_wp2_with fail
      simp [bodyPost, results, Try.results44, go_sem]
      have e : ((k : Nat) : Int) - 1 = (i : Int) := by have := HIK.out; omega
      rw [HH.out, HL.out, e]
      exact ⟨⟨_, _, HB6.out⟩, HW6.out⟩
   ·have HBH := Lib.hid (show begH X Y k = List.range k by unfold begH; rw [if_neg (by rw [HR.out]; omega)])
    have HB3 : Hid (BS B w2 bb t D (.slice ao m cap) N X Y O 0 (begH X Y k)) := by rw [HBH.out]; exact HB2
    have HW3 := HW2
    have hrn : ¬ r < 0 := by omega
    clear HB2 HW2 HBH hr3
    replace HB3 := Lib.hid (⟨_, _, _, HB3.out⟩ : ∃ ao m cap, BS B w2 bb t D (.slice ao m cap) N X Y O 0 (begH X Y k))
    obtain ⟨ao, m, cap, HB3⟩ := HB3.out
    replace HB3 := Lib.hid HB3
    have hbl := begH_len X Y k
    obtain ⟨H, hH⟩ : ∃ H, begH X Y k = H := ⟨_, rfl⟩
    rw [hH] at hbl HB3
    have HH := Lib.hid hH
    obtain ⟨l, hl⟩ : ∃ l, begT H k = l := ⟨_, rfl⟩
    have HL := Lib.hid hl
    have HP2 : Hid (PutOk N O l) := by refine Lib.hid ?_; rw [← hl, ← hH]; exact HP.out
    have hll : l.length = k - 1 := by rw [← hl]; exact begT_len H k
    have HN : Hid (∀ x, x ∈ H → x < N) := by
     refine Lib.hid fun x hx => ?_
     rw [← hH] at hx
     unfold begH at hx
     split at hx
     ·have := List.mem_range.1 (List.mem_reverse.1 hx); omega
     ·have := List.mem_range.1 hx; omega
    clear hH hl HP
    go_wp2_with fail
    go_loopg [5] k (fun gk s5 wr => ∃ (i : Nat) (D2 : SD), s5 = .int .i64 ((i : Int) + 1) ∧ i + 1 ≤ k ∧ k - 1 - i ≤ gk ∧ Hid (BS B wr bb t D2 (.slice ao m cap) N X Y (putAll O (l.take i)) i H) ∧ Hid (PutOk N (putAll O (l.take i)) (l.drop i)) ∧ Hid (Below B w wr))
    case atStart => exact ⟨0, D, by rfl, by omega, by omega, HB3, HP2, HW3⟩
    case round =>
     clear HB3 HW3 HP2
     obtain ⟨i, D2, rfl, hi, hg, HB, HP, HW⟩ := hrel
     obtain ⟨ao', cap', hv, hc1, hc2, hc3⟩ := HB.out.bm.row.val
     obtain ⟨g, hao, _, hgl, hcell⟩ := hc3 (by omega)
     injection hv with e1 e2 e3
     rw [hbl] at e2 hc1
     replace e2 := e2.symm; subst e1; subst e2; subst e3; subst hao
     by_cases hlt : i + 1 < k
     ·have hx := HP.out
      have hst := putOk_step HP.out (x := (gH H i, gH H (i + 1), k)) (by rw [← HL.out]; exact begT_at H k i (by omega))
      have HST := Lib.hid hst
      have c0 := HB.out.bm.blk.cell 0
      have c1 := HB.out.bm.blk.cell 1
      have lb := HB.out.bm.blk.lt
      have k1 := hcell i _ (gH_at (by omega))
      have k2 := hcell (i + 1) _ (gH_at (by omega))
      obtain ⟨y1, hy1⟩ : ∃ y, gH H i = y := ⟨_, rfl⟩
      obtain ⟨y2, hy2⟩ : ∃ y, gH H (i + 1) = y := ⟨_, rfl⟩
      rw [hy1] at k1 HST
      rw [hy2] at k2 HST
      clear hx hst hc3 hcell hy1 hy2 HP
      go_wp2_with fail
      refine wp_region_up wr.heap.size 21 [(true, 0), (true, 1), (true, 2), (true, 3), (true, 4), (true, 5), (true, 6), (true, 7), (true, 8), (true, 9), (true, 10), (true, 11), (true, 12), (true, 13), (true, 14), (true, 15), (true, 16), (true, 17), (true, 18), (true, 19), (true, 20)] (by kernel_rfl) (by kernel_rfl) (fun _ _ d _ _ h => by cases d <;> exact h) ?_
      have hb : Below wr.heap.size wr wr.drew := (Below.refl _ _).drew
      iterate 21
       first | refine wpS_takeL rfl rfl ?_ | refine wpS_takeN rfl ⟨_, rfl⟩ ?_
       go_big_quiet_step (rfl)
       refine wpQuiet_nil ?_
      refine wpS_nil ?_
      simp only [List.drop_succ_cons, List.drop_zero]
      go_wp2_with fail
      refine ((HB.out.of hb).put y1 y2 k HST.out.1 (by omega)).mono ?_
      rintro e w4 ⟨rfl, D4, hB4, hl4⟩
      rw [← HST.out.2.1] at hB4
      have HB4 := Lib.hid hB4
      have HW4 := Lib.hid ((HW.out.trans (hb.mono HB.out.size)).trans hl4)
      clear hB4 hl4 hb HB HW c0 c1 k1 k2 lb
      go_wp2_with fail
      go_roundg (k - 1 - (i + 1))
      case measure => omega
      case rel => exact ⟨i + 1, D4, by norm_cast, by omega, Nat.le_refl _, HB4, HST.out.2.2, HW4⟩
     ·have hik : k = i + 1 := Nat.le_antisymm (Nat.le_of_not_lt hlt) hi
      have hlt' : l.take i = l := List.take_of_length_le (by rw [hll, hik]; exact Nat.le_refl _)
      have hBB := HB.out
      have HIK := Lib.hid hik
      rw [hlt'] at hBB
      have HB5 := Lib.hid hBB
      clear hBB hlt' HP HB hc3 hcell hik
      have c0 := HB5.out.bm.blk.cell 0
      have c1 := HB5.out.bm.blk.cell 1
      have lb := HB5.out.bm.blk.lt
      have hsz := HB5.out.size
      have hki : ¬ ((i : Int) + 1 < (k : Int)) := fun h => hlt (by exact_mod_cast h)
      go_wp2_with (at_builtin; refine wpList_append_nl rfl _ _ rfl B (.slice (some ⟨g, 0, none⟩) k cap) H k wr.heap.size rfl rfl (Blk.new wr _ _) (HB5.out.bm.row.of (below_a1 _ _)) ?c1 ?c2 ?_)
      case c1 => omega
      case c2 => exact Nat.le_succ_of_le hsz
      intro ao' m' cap' w2_ hn2 hg2
      have HB1 := Lib.hid (HB5.out.of (below_a1 wr (.cells #[.int .i64 (k : Nat)] 3)))
      have kb := HB1.out.bbAt hg2
      have hbu := HB1.out.hull hn2 hg2
      have HB6 := Lib.hid hbu.1
      have HW6 := Lib.hid (HW.out.trans (((below_a1 wr (.cells #[.int .i64 (k : Nat)] 3)).mono hsz).trans hbu.2))
      have k0 := kb.cell 0
      have k1 := kb.cell 1
      have f1 := kb.free 1
      clear hn2 hg2 hbu HB5 HW HB1 kb c0 c1 lb hsz
      go_wp2_with fail
      simp [bodyPost, results, Try.results44, go_sem]
      have e : ((k : Nat) : Int) - 1 = (i : Int) := by have := HIK.out; omega
      rw [HH.out, HL.out, e]
      exact ⟨⟨_, _, HB6.out⟩, HW6.out⟩
end Go.Proofs.Ytdlpfiiakmhnlaa

namespace Go.Proofs.Ytdlpfiiakmhnlaa
open Go.RowKit

/-- does p see the way from one place of a hull to the next one? -/
def sE (X Y : Nat → Int) (h : List Nat) (p i : Nat) : Bool := decide (wy X Y (gH h i) (gH h (nx h.length i)) p < 0)
def addT (h : List Nat) (p f j : Nat) : List Tri3 := (List.range j).map fun k => (gH h ((f + k) % h.length), p, gH h (nx h.length ((f + k) % h.length)))
def addH (h : List Nat) (p f j : Nat) : List Nat := gH h f :: p :: (List.range (h.length - j)).map fun k => gH h ((f + j + k) % h.length)
theorem addT_at (h : List Nat) (p f j k : Nat) (hk : k < j) : (addT h p f j)[k]? = some (gH h ((f + k) % h.length), p, gH h (nx h.length ((f + k) % h.length))) := by
  unfold addT
  rw [List.getElem?_map, List.getElem?_range hk]; rfl
theorem addT_len (h : List Nat) (p f j : Nat) : (addT h p f j).length = j := by unfold addT; simp
theorem tmod_nat (a b : Nat) : Int.tmod (a : Int) (b : Int) = ((a % b : Nat) : Int) := by rw [Int.tmod_eq_emod_of_nonneg (by omega)]; norm_cast
theorem ar1 {a b c : Nat} (h : c ≤ a - b) (hl : a ≤ 4096) : c + 2 < 100000 := by omega
theorem ar2 {i f j c : Nat} (h : i = f + j + c) : i + 1 = f + j + (c + 1) := by omega
theorem ar4 {a c g : Nat} (h : a - c ≤ g) (hc : c < a) : a - (c + 1) < g := by omega
theorem ar5 {f j m : Nat} (h : j < m) : f + j + (m - j) = f + m := by omega
theorem ar6 {i f j c m : Nat} (h : i = f + j + c) (hf : f < m) (hj : j < m) (hc : c ≤ m - j) (hl : m ≤ 4096) : (i : Int) + 1 ≤ 9223372036854775807 := by omega
theorem mod_ne {f d m : Nat} (hf : f < m) (h0 : 0 < d) (hd : d < m) : (f + d) % m ≠ f := by
  intro h
  rcases Nat.lt_or_ge (f + d) m with h1 | h1
  · rw [Nat.mod_eq_of_lt h1] at h; omega
  · rw [Nat.mod_eq_sub_mod h1, Nat.mod_eq_of_lt (by omega)] at h; omega
theorem nx_mod (m i : Nat) : nx m (i % m) = (i + 1) % m := by unfold nx; rw [Nat.mod_add_mod]
theorem NL.low {w : World} {base base' : Nat} {v : Value} {L : List Nat} (h : NL w base v L) (hb : base' ≤ base) : NL w base' v L := by
  refine ⟨h.1, h.2.imp id ?_⟩
  rintro ⟨g, cap, cur, e, hbg, r⟩
  exact ⟨g, cap, cur, e, Nat.le_trans hb hbg, r⟩
/-- what add asks of the hull -/
structure AddOk (X Y : Nat → Int) (h : List Nat) (p f j : Nat) : Prop where
  f0 : f < h.length
  j0 : 0 < j
  j1 : j < h.length
  before : ∀ i, i < f → sE X Y h p i = true → sE X Y h p ((i + h.length - 1) % h.length) = true
  at0 : sE X Y h p ((f + h.length - 1) % h.length) = false
  run : ∀ k, k < j → sE X Y h p ((f + k) % h.length) = true
  fin : sE X Y h p ((f + j) % h.length) = false
set_option maxRecDepth 100000 in
set_option maxHeartbeats 4000000 in
theorem add_is (B : Nat) (bb t : Nat) (D : SD) (hv : Value) (N : Nat) (X Y : Nat → Int) (O : Nat → List (Nat × Nat)) (n : Int) (h : List Nat) (p f j : Nat) (w : World) (h0 : BS B w bb t D hv N X Y O n h) (hp : p < N) (hN : ∀ x, x ∈ h → x < N) (hl : h.length ≤ 4096)
    (hA : AddOk X Y h p f j) (hP : PutOk N O (addT h p f j)) (hn : 0 ≤ n ∧ n < 100000000) :
    Calls Try.prog 45 #[ptr bb 0, .int .i64 p] w fun e w' => e = .returned (.tuple #[]) ∧ ∃ D' hv', BS B w' bb t D' hv' N X Y (putAll O (addT h p f j)) (n + j) (addH h p f j) ∧ Below B w w' := by
 have H0 := Lib.hid h0
 have HP := Lib.hid hP
 have HN := Lib.hid hN
 have HA := Lib.hid hA
 have hf := hA.f0
 have hj0 := hA.j0
 have hj1 := hA.j1
 obtain ⟨ao0, cap0, hv0, hc1, hc2, _⟩ := h0.bm.row.val
 obtain ⟨m, hm⟩ : ∃ m, h.length = m := ⟨_, rfl⟩
 rw [hm] at hf hj1 hl hv0 hc1
 have HM := Lib.hid hm
 have hm0 : ¬ m = 0 := by omega
 have c1 := h0.bm.blk.cell 1
 rw [hv0] at c1
 clear h0 hP hN hA hm hv0
 go_enter Try.func45, Try.ntmps45
 go_wp2_with fail
 go_loopg [5] f (fun gk s5 wr => ∃ i : Nat, s5 = .int .i64 i ∧ i ≤ f ∧ f - i ≤ gk ∧ Hid (BS B wr bb t D hv N X Y O n h) ∧ Hid (Below B w wr))
 case atStart => exact ⟨0, rfl, Nat.zero_le _, by omega, H0, Lib.hid (Below.refl _ _)⟩
 case round =>
  clear H0 c1
  obtain ⟨i, rfl, hi, hg, HB, HW⟩ := hrel
  obtain ⟨r1, hr1⟩ : ∃ r, wy X Y (gH h i) (gH h (nx h.length i)) p = r := ⟨_, rfl⟩
  have HR1 := Lib.hid hr1
  have hs1 : sE X Y h p i = decide (r1 < 0) := by unfold sE; rw [hr1]
  have HS1 := Lib.hid hs1
  have himh : i < h.length := by rw [HM.out]; omega
  clear hr1 hs1
  go_wp2_with fail
  refine (seen_st bb t B hv h D N X Y O n p i r1 wr HB.out.sm HB.out.bm hp himh HN.out HR1.out).mono ?_
  rintro e w2 ⟨rfl, hn2⟩
  have HB2 := Lib.hid (HB.out.of hn2)
  have HW2 := Lib.hid (HW.out.trans (hn2.mono HB.out.size))
  clear hn2 HB HW
  by_cases hr : r1 < 0
  ·obtain ⟨q, hq⟩ : ∃ q, (i + m - 1) % m = q := ⟨_, rfl⟩
   have hqm : q < m := by rw [← hq]; exact Nat.mod_lt _ (by omega)
   have hmod : Int.tmod ((i : Int) + (m : Int) - 1) (m : Int) = (q : Int) := by
    rw [show (i : Int) + (m : Int) - 1 = ((i + m - 1 : Nat) : Int) by omega, tmod_nat, hq]
   obtain ⟨r2, hr2⟩ : ∃ r, wy X Y (gH h q) (gH h (nx h.length q)) p = r := ⟨_, rfl⟩
   have HR2 := Lib.hid hr2
   have hs2 : sE X Y h p q = decide (r2 < 0) := by unfold sE; rw [hr2]
   have HS2 := Lib.hid hs2
   have HQ := Lib.hid hq
   have hqh : q < h.length := by rw [HM.out]; exact hqm
   clear hr2 hs2 hq
   go_wp2_with fail
   refine (seen_st bb t B hv h D N X Y O n p q r2 w2 HB2.out.sm HB2.out.bm hp hqh HN.out HR2.out).mono ?_
   rintro e w3 ⟨rfl, hn2⟩
   have HB3 := Lib.hid (HB2.out.of hn2)
   have HW3 := Lib.hid (HW2.out.trans (hn2.mono HB2.out.size))
   clear hn2 HB2 HW2 hmod
   by_cases hrr : r2 < 0
   ·have hif : i < f := by
     rcases Nat.lt_or_ge i f with h1 | h1
     ·exact h1
     ·exfalso
      have e : i = f := by omega
      have h2 := HA.out.at0
      rw [HM.out, ← e, HQ.out, HS2.out] at h2
      simp at h2; omega
    go_wp2_with fail
    go_roundg (f - (i + 1))
    case measure => omega
    case rel => exact ⟨i + 1, by norm_cast, by omega, Nat.le_refl _, HB3, HW3⟩
   ·have hif : i = f := by
     rcases Nat.lt_or_ge i f with h1 | h1
     ·exfalso
      have h2 := HA.out.before i h1 (by rw [HS1.out]; simpa using hr)
      rw [HM.out, HQ.out, HS2.out] at h2
      simp at h2; omega
     ·omega
    have hfi := hif.symm
    subst hfi
    obtain ⟨l, hl⟩ : ∃ l, addT h p f j = l := ⟨_, rfl⟩
    have HL := Lib.hid hl
    have HP2 : Hid (PutOk N O l) := by refine Lib.hid ?_; rw [← hl]; exact HP.out
    have hll : l.length = j := by rw [← hl]; exact addT_len h p f j
    clear hl HP HS1 HR1 HS2 HR2 HQ hi hg hqm hqh himh
    go_wp2_with fail
    clear hr hrr
    go_loopg [6] j (fun gk s6 wr => ∃ (i k : Nat) (D2 : SD), s6 = .int .i64 i ∧ i = f + k ∧ k ≤ j ∧ j - k ≤ gk ∧ Hid (BS B wr bb t D2 hv N X Y (putAll O (l.take k)) (n + k) h) ∧ Hid (PutOk N (putAll O (l.take k)) (l.drop k)) ∧ Hid (Below B w wr))
    case atStart => exact ⟨f, 0, D, rfl, rfl, Nat.zero_le _, by omega, Lib.hid (by rw [List.take_zero, show n + ((0 : Nat) : Int) = n by omega]; exact HB3.out), HP2, HW3⟩
    case round =>
     clear HB3 HW3 HP2
     obtain ⟨i, k, D2, rfl, hik, hk, hg, HB, HP, HW⟩ := hrel
     obtain ⟨q, hq⟩ : ∃ q, i % m = q := ⟨_, rfl⟩
     have hqm : q < m := by rw [← hq]; exact Nat.mod_lt _ (by omega)
     have hmod : Int.tmod (i : Int) (m : Int) = (q : Int) := by rw [tmod_nat, hq]
     obtain ⟨r, hr⟩ : ∃ r, wy X Y (gH h q) (gH h (nx h.length q)) p = r := ⟨_, rfl⟩
     have HR := Lib.hid hr
     have hs : sE X Y h p q = decide (r < 0) := by unfold sE; rw [hr]
     have HS := Lib.hid hs
     have HQ := Lib.hid hq
     have HIK := Lib.hid hik
     have hqh : q < h.length := by rw [HM.out]; exact hqm
     clear hr hs hq hik
     go_wp2_with fail
     refine (seen_st bb t B hv h D2 N X Y _ _ p q r wr HB.out.sm HB.out.bm hp hqh HN.out HR.out).mono ?_
     rintro e w2_ ⟨rfl, hn2⟩
     have HB2 := Lib.hid (HB.out.of hn2)
     have HW2 := Lib.hid (HW.out.trans (hn2.mono HB.out.size))
     clear hn2 HB HW
     by_cases hkj : k < j
     ·have hrn : r < 0 := by
       have h2 := HA.out.run k hkj
       rw [HM.out, ← HIK.out, HQ.out, HS.out] at h2
       simpa using h2
      obtain ⟨ao', cap', hv', hc1', hc2', hc3'⟩ := HB2.out.bm.row.val
      obtain ⟨g, hao, _, hgl, hcell⟩ := hc3' (by rw [HM.out]; exact Nat.lt_of_le_of_lt (Nat.zero_le _) hf)
      have c0 := HB2.out.bm.blk.cell 0
      have c1 := HB2.out.bm.blk.cell 1
      rw [hv', HM.out, hao] at c1
      rw [HM.out] at hc1'
      have lb := HB2.out.bm.blk.lt
      obtain ⟨q2, hq2⟩ : ∃ q2, nx m q = q2 := ⟨_, rfl⟩
      have hq2m : q2 < m := by rw [← hq2]; exact nx_lt hqm
      have hmod2 : Int.tmod ((i : Int) + 1) (m : Int) = (q2 : Int) := by
       rw [show (i : Int) + 1 = ((i + 1 : Nat) : Int) by norm_cast, tmod_nat, ← hq2, ← HQ.out, nx_mod]
      have k1 := hcell q _ (gH_at hqh)
      have k2 := hcell q2 _ (gH_at (by rw [HM.out]; exact hq2m))
      have hst := putOk_step HP.out (x := (gH h q, p, gH h q2)) (by rw [← HL.out, addT_at h p f j k hkj, HM.out, ← HIK.out, HQ.out, hq2])
      have HST := Lib.hid hst
      obtain ⟨y1, hy1⟩ : ∃ y, gH h q = y := ⟨_, rfl⟩
      obtain ⟨y2, hy2⟩ : ∃ y, gH h q2 = y := ⟨_, rfl⟩
      rw [hy1] at k1 HST
      rw [hy2] at k2 HST
      have hi1 : (i : Int) + 1 ≤ 9223372036854775807 := by have := HIK.out; omega
      clear hst hc3' hcell hv' hao hy1 hy2 HP hq2
      go_wp2_with fail
      refine wp_region_up w2_.heap.size 25 [(true, 0), (true, 1), (true, 2), (true, 3), (true, 4), (true, 5), (true, 6), (true, 7), (true, 8), (true, 9), (true, 10), (true, 11), (true, 12), (true, 13), (true, 14), (true, 15), (true, 16), (true, 17), (true, 18), (true, 19), (true, 20), (true, 21), (true, 22), (true, 23), (true, 24)] (by kernel_rfl) (by kernel_rfl) (fun _ _ d _ _ h => by cases d <;> exact h) ?_
      have hb : Below w2_.heap.size w2_ w2_.drew := (Below.refl _ _).drew
      iterate 25
       first | refine wpS_takeL rfl rfl ?_ | refine wpS_takeN rfl ⟨_, rfl⟩ ?_
       go_big_quiet_step (rfl)
       refine wpQuiet_nil ?_
      refine wpS_nil ?_
      simp only [List.drop_succ_cons, List.drop_zero]
      go_wp2_with fail
      refine ((HB2.out.of hb).put y1 p y2 HST.out.1 (by omega)).mono ?_
      rintro e w4 ⟨rfl, D4, hB4, hl4⟩
      rw [← HST.out.2.1, show n + (k : Int) + 1 = n + ((k + 1 : Nat) : Int) by omega] at hB4
      have HB4 := Lib.hid hB4
      have HW4 := Lib.hid ((HW2.out.trans (hb.mono HB2.out.size)).trans hl4)
      clear hB4 hl4 hb HB2 HW2 c0 c1 k1 k2 lb hmod hmod2
      go_wp2_with fail
      go_roundg (j - (k + 1))
      case measure => omega
      case rel => exact ⟨i + 1, k + 1, D4, rfl, by have := HIK.out; omega, by omega, Nat.le_refl _, HB4, HST.out.2.2, HW4⟩
     ·have hkj2 : j = k := Nat.le_antisymm (Nat.le_of_not_lt hkj) hk
      have hrn : ¬ r < 0 := by
       have h2 := HA.out.fin
       rw [HM.out, hkj2, ← HIK.out, HQ.out, HS.out] at h2
       simpa using h2
      have hlt' : l.take k = l := List.take_of_length_le (by rw [hll, hkj2]; exact Nat.le_refl _)
      have hBB := HB2.out
      rw [hlt', ← hkj2] at hBB
      have HB5 := Lib.hid hBB
      have HI2 : Hid (i = f + j) := by refine Lib.hid ?_; rw [hkj2]; exact HIK.out
      clear hBB hlt' HP HB2 hkj2 hkj hk hg HIK HQ HS HR hmod hqm hqh
      obtain ⟨ao', cap', hv', hc1', hc2', hc3'⟩ := HB5.out.bm.row.val
      obtain ⟨g, hao, _, hgl, hcell⟩ := hc3' (by rw [HM.out]; exact Nat.lt_of_le_of_lt (Nat.zero_le _) hf)
      have c0 := HB5.out.bm.blk.cell 0
      have c1 := HB5.out.bm.blk.cell 1
      rw [hv', HM.out, hao] at c1
      rw [HM.out] at hc1'
      have lb := HB5.out.bm.blk.lt
      have kf := hcell f _ (gH_at (by rw [HM.out]; exact hf))
      go_wp2_with fail
      refine name_world ?_
      intro W5 hW5
      have ko : Blk W5 w2_.heap.size #[.int .i64 (gH h f : Nat), .int .i64 (p : Nat)] 3 := by rw [hW5]; exact Blk.new w2_ _ _
      have hb5 : Below w2_.heap.size w2_ W5 := by rw [hW5]; exact below_a1 w2_ _
      have hs5 : W5.heap.size = w2_.heap.size + 1 := by rw [hW5]; simp
      have hno : NL W5 w2_.heap.size (.slice (some ⟨w2_.heap.size, 0, none⟩) 2 2) [gH h f, p] := ⟨rfl, .inr ⟨w2_.heap.size, 2, _, rfl, Nat.le_refl _, ko, Nat.le_refl _, by decide, rfl, rfl⟩⟩
      have HNO := Lib.hid hno
      have H5 := Lib.hid hb5
      clear hno hb5 hs5 hW5 ko hc3' c0 c1 lb kf
      go_wp2_with fail
      go_loopg [7, 8] (m - j) (fun gk s7 s8 wz => ∃ (i2 c : Nat) (ao2 : Option Addr) (n2 cap2 : Nat), s8 = .int .i64 i2 ∧ s7 = .slice ao2 n2 cap2 ∧ Hid (i2 = f + j + c) ∧ c ≤ m - j ∧ m - j - c ≤ gk ∧ Hid (NL wz w2_.heap.size (.slice ao2 n2 cap2) (gH h f :: p :: (List.range c).map fun k => gH h ((f + j + k) % h.length))) ∧ Hid (Below w2_.heap.size w2_ wz))
      case atStart => exact ⟨i, 0, _, _, _, rfl, rfl, HI2, Nat.zero_le _, by omega, HNO, H5⟩
      case round =>
       clear HNO H5
       obtain ⟨i2, c, ao2, n2, cap2, rfl, rfl, HI3, hc, hg, HNO, H5⟩ := hrel
       obtain ⟨q, hq⟩ : ∃ q, i2 % m = q := ⟨_, rfl⟩
       have hqm : q < m := by rw [← hq]; exact Nat.mod_lt _ (Nat.pos_of_ne_zero hm0)
       have hmod : Int.tmod (i2 : Int) (m : Int) = (q : Int) := by rw [tmod_nat, hq]
       have HQ := Lib.hid hq
       clear hq
       have HB6 := Lib.hid (HB5.out.of H5.out)
       obtain ⟨ao3, cap3, hv3, _, _, _⟩ := HNO.out.val
       have c1 := HB6.out.bm.blk.cell 1
       rw [hv', HM.out, hao] at c1
       have lb := HB6.out.bm.blk.lt
       by_cases hcj : c < m - j
       ·have hqf : ¬ (q : Int) = (f : Int) := by
         intro e
         have e2 : q = f := by omega
         have h2 := HI3.out
         have h3 := HQ.out
         rw [h2, e2] at h3
         exact mod_ne hf (show 0 < j + c by omega) (show j + c < m by omega) (by rw [← Nat.add_assoc]; exact h3)
        have kq := (H5.out.cell (p := ⟨g, q, none⟩) hgl).trans (hcell q _ (gH_at (by rw [HM.out]; exact hqm)))
        obtain ⟨y, hy⟩ : ∃ y, gH h q = y := ⟨_, rfl⟩
        rw [hy] at kq
        have HY := Lib.hid hy
        clear hy
        have lg : g < wr.heap.size := Nat.lt_of_lt_of_le hgl H5.out.size
        have hszz := H5.out.size
        have hll2 : (gH h f :: p :: (List.range c).map fun k => gH h ((f + j + k) % h.length)).length < 100000 := by
         rw [show (gH h f :: p :: (List.range c).map fun k => gH h ((f + j + k) % h.length)).length = c + 2 by simp]
         exact ar1 hc hl
        obtain ⟨OL, hOL⟩ : ∃ OL, (gH h f :: p :: (List.range c).map fun k => gH h ((f + j + k) % h.length)) = OL := ⟨_, rfl⟩
        rw [hOL] at HNO hll2
        have HOL := Lib.hid hOL
        clear hOL hv3
        go_wp2_with fail
        refine wp_region_up wr.heap.size 11 [(true, 0), (true, 1), (true, 2), (true, 3), (true, 4), (true, 5), (true, 6), (true, 7), (true, 8), (true, 9), (false, 10)] (by kernel_rfl) (by kernel_rfl) (fun _ _ d _ _ h => by cases d <;> exact h) ?_
        iterate 10
         first | refine wpS_takeL rfl rfl ?_ | refine wpS_takeN rfl ⟨_, rfl⟩ ?_
         go_big_quiet_step (rfl)
         refine wpQuiet_nil ?_
        refine wpS_doL rfl ?_
        intro K hK
        go_wp2_with fail
        refine name_Kw ?_
        intro Wx hWx
        have kx : Blk Wx wr.heap.size #[.int .i64 (y : Nat)] 3 := by rw [hWx]; exact Blk.new wr.drew _ _
        have hbx : Below wr.heap.size wr Wx := by rw [hWx]; exact ((Below.refl _ _).drew).alloc (by simp) _
        refine hK.out _ _ (up_iff.2 hbx) ?_
        clear hK K
        have HNX := Lib.hid (HNO.out.of hbx)
        have HKX := Lib.hid kx
        have HBX := Lib.hid hbx
        have hszx : w2_.heap.size ≤ Wx.heap.size := Nat.le_trans hszz hbx.size
        clear hWx kx hbx
        refine wpS_nil ?_
        simp only [List.drop_succ_cons, List.drop_zero]
        go_wp2_with (at_builtin; refine wpList_append_nl rfl _ _ rfl w2_.heap.size (.slice ao2 n2 cap2) OL y wr.heap.size rfl rfl HKX.out HNX.out hll2 hszx ?_)
        intro ao4 n4 cap4 w8 hn8 hg8
        have hb8 : Below w2_.heap.size w2_ w8 := (H5.out.trans (HBX.out.mono hszz)).trans ((Below.refl _ _).grown hg8 hszx (fun b hb => by
         obtain ⟨_, _, h3⟩ := HNX.out.typ hb
         exact h3))
        have hn9 : NL w8 w2_.heap.size (.slice ao4 n4 cap4) (gH h f :: p :: (List.range (c + 1)).map fun k => gH h ((f + j + k) % h.length)) := by
         have e : (gH h f :: p :: (List.range (c + 1)).map fun k => gH h ((f + j + k) % h.length)) = OL ++ [y] := by
          rw [← HOL.out, List.range_succ, List.map_append, ← HY.out, ← HQ.out, HI3.out, HM.out]; rfl
         rw [e]; exact hn8
        have HN9 := Lib.hid hn9
        have H8 := Lib.hid hb8
        clear hn9 hb8 hn8 hg8 HNX HKX HBX HNO H5 HB6 c1 lb kq lg hszz hszx hll2
        have hb62 : (i2 : Int) + 1 ≤ 9223372036854775807 := ar6 HI3.out hf hj1 hc hl
        go_wp2_with fail
        go_roundg (m - j - (c + 1))
        case measure => exact ar4 hg hcj
        case rel => exact ⟨i2 + 1, c + 1, ao4, n4, cap4, rfl, rfl, Lib.hid (ar2 HI3.out), hcj, Nat.le_refl _, HN9, H8⟩
       ·have hcm : c = m - j := Nat.le_antisymm hc (Nat.le_of_not_lt hcj)
        have hqf : (q : Int) = (f : Int) := by
         have h2 := HI3.out
         have h3 := HQ.out
         rw [h2, hcm, show f + j + (m - j) = f + m from ar5 hj1, Nat.add_mod_right, Nat.mod_eq_of_lt hf] at h3
         rw [h3]
        have HNF := HNO.out
        rw [hcm] at HNF
        have e9 : (gH h f :: p :: (List.range (m - j)).map fun k => gH h ((f + j + k) % h.length)) = addH h p f j := by unfold addH; rw [HM.out]
        rw [e9] at HNF
        have hbu := HB6.out.hull (HNF.low HB5.out.size) ⟨rfl, rfl, rfl, Nat.le_refl _, fun _ _ _ => rfl⟩
        have HB7 := Lib.hid hbu.1
        have HW7 := Lib.hid (((HW2.out).trans (H5.out.mono HB5.out.size)).trans hbu.2)
        have c0 := HB6.out.bm.blk.cell 0
        have f1 := HB6.out.bm.blk.free 1
        clear hbu HNF e9 HNO H5 hcm hc hcj hg hv3
        go_wp2_with fail
        simp [bodyPost, results, Try.results45, go_sem]
        rw [HL.out]
        exact ⟨⟨_, _, HB7.out⟩, HW7.out⟩
  ·have hif : i < f := by
    rcases Nat.lt_or_ge i f with h1 | h1
    ·exact h1
    ·exfalso
     have e : i = f := by omega
     have h2 := HA.out.run 0 hj0
     rw [HM.out, Nat.add_zero, Nat.mod_eq_of_lt hf, ← e, HS1.out] at h2
     simp at h2; omega
   go_wp2_with fail
   go_roundg (f - (i + 1))
   case measure => omega
   case rel => exact ⟨i + 1, by norm_cast, by omega, Nat.le_refl _, HB2, HW2⟩
end Go.Proofs.Ytdlpfiiakmhnlaa

namespace Go.Proofs.Ytdlpfiiakmhnlaa
open Go.RowKit

/-- the cells of the first k points -/
def fw (X Y : Nat → Int) : Nat → List Value
  | 0 => []
  | k + 1 => fw X Y k ++ [.int .i64 (X k), .int .i64 (Y k)]
theorem fw_len (X Y : Nat → Int) : ∀ k, (fw X Y k).length = k * 2
  | 0 => rfl
  | k + 1 => by show (fw X Y k ++ _).length = _; rw [List.length_append, fw_len X Y k]; show k * 2 + 2 = _; omega
theorem fw_at (X Y : Nat → Int) : ∀ k j, j < k → (fw X Y k)[j * 2]? = some (.int .i64 (X j)) ∧ (fw X Y k)[j * 2 + 1]? = some (.int .i64 (Y j))
  | 0, j, h => by omega
  | k + 1, j, h => by
    show (fw X Y k ++ _)[j * 2]? = _ ∧ (fw X Y k ++ _)[j * 2 + 1]? = _
    by_cases e : j = k
    · subst e
      rw [List.getElem?_append_right (by rw [fw_len]; omega), List.getElem?_append_right (by rw [fw_len]; omega), fw_len, show j * 2 - j * 2 = 0 by omega, show j * 2 + 1 - j * 2 = 1 by omega]
      exact ⟨rfl, rfl⟩
    · rw [List.getElem?_append_left (by rw [fw_len]; omega), List.getElem?_append_left (by rw [fw_len]; omega)]
      exact fw_at X Y k j (by omega)
theorem fw_one (X Y : Nat → Int) : ∀ k, ∀ u ∈ fw X Y k, u.oneCell' = true
  | 0, u, h => by cases h
  | k + 1, u, h => by
    rcases List.mem_append.1 h with h | h
    · exact fw_one X Y k u h
    · simp at h; rcases h with rfl | rfl <;> rfl
theorem Pts.src {w : World} {a : Addr} {n cap : Nat} {X Y : Nat → Int} (h : Pts w (some a) n cap X Y) (j : Nat) (u : Value) (hj : (fw X Y n)[j]? = some u) : w.cell? (a.add j) = some u := by
  have hjl : j < n * 2 := by rw [← fw_len X Y n]; exact (List.getElem?_eq_some_iff.1 hj).1
  obtain ⟨a', e, _, hc⟩ := h.ptr (by omega)
  injection e with e; subst e
  have hi : j / 2 < n := by omega
  have h1 := fw_at X Y n (j / 2) hi
  have h2 := hc (j / 2) hi
  rcases (show j % 2 = 0 ∨ j % 2 = 1 by omega) with e | e
  · have ej : j = j / 2 * 2 := by omega
    rw [ej] at hj ⊢
    rw [h1.1] at hj; injection hj with hj; subst hj; exact h2.1
  · have ej : j = j / 2 * 2 + 1 := by omega
    rw [ej] at hj ⊢
    rw [h1.2] at hj; injection hj with hj; subst hj
    have := h2.2
    have e3 : (a.add (j / 2 * 2)).add 1 = a.add (j / 2 * 2 + 1) := by
      by_cases e0 : j / 2 * 2 = 0
      · rw [e0]; unfold Addr.add; simp
      · obtain ⟨k, hk⟩ : ∃ k, j / 2 * 2 = k + 1 := ⟨j / 2 * 2 - 1, by omega⟩
        rw [hk]; rfl
    rw [← e3]; exact this
theorem info_pt : (Try.prog.info? 41).map (fun i => (i.zero, i.size, i.bytes)) = some (some (.agg #[.int .i64 0, .int .i64 0]), 2, 16) := by kernel_rfl
/-- points in a row of their own -/
def PO (w : World) (base : Nat) (v : Value) (k : Nat) (X Y : Nat → Int) : Prop := w.ownsRow base 41 2 v k (fw X Y k)
theorem PO.pts {w : World} {base : Nat} {v : Value} {k : Nat} {X Y : Nat → Int} (h : PO w base v k X Y) :
    ∃ ao cap, v = .slice ao k cap ∧ Pts w ao k cap X Y ∧ (0 < k → ∃ a cur, ao = some a ∧ base ≤ a.block ∧ w.heap[a.block]? = some (.cells cur 41 (0, 0))) := by
  rcases h.2 with ⟨rfl, rfl⟩ | ⟨g, cap, cur, rfl, hb, hg, h1, h2, h3, h4⟩
  · exact ⟨none, 0, rfl, ⟨fun h => absurd h (by omega), Nat.le_refl _, by omega⟩, fun h => absurd h (by omega)⟩
  · refine ⟨some ⟨g, 0, none⟩, cap, rfl, ⟨fun _ => ⟨_, rfl, (Array.getElem?_eq_some_iff.1 hg).1, fun i hi => ?_⟩, h1, by unfold maxLen at h2; omega⟩, fun _ => ⟨_, cur, rfl, hb, hg⟩⟩
    have key : ∀ o u, o < k * 2 → (fw X Y k)[o]? = some u → w.cell? ⟨g, o, none⟩ = some u := fun o u ho hu => by
      rw [← h4, List.getElem?_take_of_lt ho, Array.getElem?_toList] at hu
      rw [cell_row hg]; exact hu
    have := fw_at X Y k i hi
    refine ⟨?_, ?_⟩
    · rw [add_pl, Nat.zero_add]; exact key _ _ (by omega) this.1
    · rw [add_pl, add_pl, Nat.zero_add]; exact key _ _ (by omega) this.2
set_option maxRecDepth 100000 in
set_option maxHeartbeats 1000000 in
theorem ClonePt_is (ao : Option Addr) (n cap : Nat) (X Y : Nat → Int) (w : World) (h : Pts w ao n cap X Y) (hn : n ≤ 4096) :
    Calls Try.prog 42 #[.slice ao n cap] w fun e w' => ∃ v, e = .returned v ∧ PO w' w.heap.size v n X Y ∧ Below w.heap.size w w' := by
  have hcl := h.capl
  have hcb := h.capb
  obtain ⟨i0, hi, hz0, hz1, hz2⟩ := info_parts info_pt
  have HP := Lib.hid h
  clear h
  cases ao with
  | none =>
    have heq : ∀ n w, Sem.run Try.prog (binOp BinOp.eql 22 (.slice none n cap) (.slice none 0 0)) w = .ok (.bool true) w := fun n w => by kernel_rfl
    have hn0 : n = 0 := by
      rcases Nat.eq_zero_or_pos n with h0 | h0
      · exact h0
      · obtain ⟨a, e, _⟩ := HP.out.ptr h0; cases e
    subst hn0
    have hcap : cap = 0 ∨ 0 < cap := by omega
    go_enter Try.func42, Try.ntmps42
    go_wp2
    go_ret
    exact ⟨_, rfl, ⟨rfl, .inl ⟨rfl, rfl⟩⟩, Below.refl _ _⟩
  | some a =>
    have heq : ∀ w, Sem.run Try.prog (binOp BinOp.eql 22 (.slice (some a) n cap) (.slice none 0 0)) w = .ok (.bool false) w := fun w => by kernel_rfl
    go_enter Try.func42, Try.ntmps42
    go_wp2_with (at_builtin; refine wpList_append_lies _ rfl _ _ 22 rfl w.heap.size 41 i0 (Value.agg #[.int .i64 0, .int .i64 0]) 2 16 Try.underlying22 hi hz0 hz1 hz2 rfl (by decide) (.slice (some ⟨w.heap.size, 0, none⟩) 0 0) 0 [] rfl ⟨rfl, .inr ⟨w.heap.size, 0, #[], rfl, Nat.le_refl _, heap_alloc_new w _, Nat.le_refl _, by decide, rfl, rfl⟩⟩ a n cap (fw X Y n) rfl (fw_len X Y n) (Pts.src (HP.out.of (below_a1 _ _))) (fw_one X Y n) (by unfold maxLen; omega) (by omega) (by simp) ?_)
    intro v' w' own gr _
    have HO : Hid (PO w' w.heap.size v' n X Y) := by
      refine Lib.hid ?_
      exact own
    have hb : Below w.heap.size w w' := (below_a1 w _).trans ((Below.refl _ _).grown gr (by simp) (fun k hk => by cases hk; exact Nat.le_refl _))
    clear own gr
    go_wp2
    go_ret
    exact ⟨_, rfl, HO.out, hb⟩
end Go.Proofs.Ytdlpfiiakmhnlaa

namespace Go.Proofs.Ytdlpfiiakmhnlaa
open Go.RowKit

theorem Pts.at {w wr : World} {ao : Option Addr} {n cap : Nat} {X Y : Nat → Int} (h : Pts w ao n cap X Y) (hb : Below w.heap.size w wr) {i : Nat} (hi : i < n) :
    ∃ a, ao = some a ∧ wr.cell? (a.add (i * 2)) = some (.int .i64 (X i)) ∧ wr.cell? { block := (a.add (i * 2)).block, off := (a.add (i * 2)).off + 1 } = some (.int .i64 (Y i)) := by
  obtain ⟨a, h1, h2, h3⟩ := h.ptr (by omega)
  have e1 : ∀ k, (a.add k).block = a.block := fun k => by unfold Addr.add; split <;> rfl
  have e2 : ∀ k l, ((a.add k).add l).block = a.block := fun k l => by unfold Addr.add; split <;> split <;> rfl
  refine ⟨a, h1, ?_, ?_⟩
  · rw [hb.cell (by rw [e1]; exact h2)]; exact (h3 i hi).1
  · have : wr.cell? ((a.add (i * 2)).add 1) = some (.int .i64 (Y i)) := by rw [hb.cell (by rw [e2]; exact h2)]; exact (h3 i hi).2
    exact this
def firstI (X Y : Nat → Int) (h : List Nat) (p : Nat) : Nat := ((List.range h.length).find? fun i => sE X Y h p i && !sE X Y h p ((i + h.length - 1) % h.length)).getD 0
def runJ (X Y : Nat → Int) (h : List Nat) (p f : Nat) : Nat := ((List.range h.length).takeWhile fun k => sE X Y h p ((f + k) % h.length)).length
/-- hull and triangles behind q + k points -/
def bld (X Y : Nat → Int) (q : Nat) : Nat → List Nat × List Tri3
  | 0 => (begH X Y q ++ [q], begT (begH X Y q) q)
  | k + 1 =>
    let s := bld X Y q k
    let p := q + k + 1
    let f := firstI X Y s.1 p
    let j := runJ X Y s.1 p f
    (addH s.1 p f j, s.2 ++ addT s.1 p f j)
/-- what Build asks of the points behind the first line -/
structure BldOk (N : Nat) (X Y : Nat → Int) (q : Nat) : Prop where
  put : ∀ k, q + k < N → PutOk N (fun _ => []) (bld X Y q k).2
  dom : ∀ k, q + k < N → ∀ x, x ∈ (bld X Y q k).1 → x < N
  add : ∀ k, q + k + 1 < N → AddOk X Y (bld X Y q k).1 (q + k + 1) (firstI X Y (bld X Y q k).1 (q + k + 1)) (runJ X Y (bld X Y q k).1 (q + k + 1) (firstI X Y (bld X Y q k).1 (q + k + 1)))
  len : ∀ k, q + k < N → (bld X Y q k).1.length ≤ 4096
  cnt : ∀ k, q + k < N → (bld X Y q k).2.length < 100000000
theorem info_row : (Try.prog.info? 103).map (fun i => (i.zero, i.size, i.bytes)) = some (some (.slice none 0 0), 1, 24) := by kernel_rfl
/-- N rows, all empty -/
theorem make_rows (N : Nat) (hN : N ≤ 4096) : ∃ MC : Array Value, (∀ w, Sem.run Try.prog (Instr.makeSlice 85 (.int .i64 (N : Nat)) (.int .i64 (N : Nat))) w = .ok (.slice (some ⟨w.heap.size, 0, none⟩) N N) (w.alloc (.cells MC 103))) ∧ ∀ a, a < N → MC[a]? = some (.slice none 0 0) := by
  obtain ⟨i0, hi, hz0, hz1, hz2⟩ := info_parts info_row
  refine ⟨madeCells (Value.slice none 0 0).cells (N * 1), fun w => ?_, fun a ha => ?_⟩
  · have := run_makeSlice (P := Try.prog) w 85 103 i0 (.slice none 0 0) Try.underlying85 hi hz0 .i64 .i64 (N : Nat) (N : Nat) (by omega) (Int.le_refl _) (by rw [hz1]; simp; omega) (by rw [hz2]; omega) (by omega)
    rw [hz1] at this
    simpa using this
  · unfold madeCells
    simp [Value.cells, ha, Nat.mod_one]
theorem HRow.none {w : World} {base : Nat} : HRow w base (.slice none 0 0) [] := ⟨rfl, .inl ⟨rfl, rfl⟩⟩
theorem NL.none {w : World} {base : Nat} : NL w base (.slice none 0 0) [] := ⟨rfl, .inl ⟨rfl, rfl⟩⟩
/-- a fresh store and its builder -/
theorem BS.new {B : Nat} {V : World} {t bb ob N cap2 : Nat} {ao2 : Option Addr} {X Y : Nat → Int} {MC : Array Value} (ht : Blk V t #[.slice ao2 N cap2, .slice (some ⟨ob, 0, none⟩) N N, .int .i64 0] 87)
    (hb : Blk V bb #[ptr t 0, .slice none 0 0] 89) (ho : Blk V ob MC 103) (hM : ∀ a, a < N → MC[a]? = some (.slice none 0 0)) (hp : Pts V ao2 N cap2 X Y)
    (hty : 0 < N → ∃ a cur, ao2 = some a ∧ V.heap[a.block]? = some (.cells cur 41 (0, 0))) (hN : N ≤ 4096) (hBt : B ≤ t) (hBb : B ≤ bb) (hBo : B ≤ ob) :
    BS B V bb t ⟨ao2, cap2, ob, N, fun _ => .slice none 0 0⟩ (.slice none 0 0) N X Y (fun _ => []) 0 [] := by
  refine ⟨⟨ht, hp, hty, ⟨MC, ho, hM⟩, Nat.le_refl _, ?_, fun a _ => HRow.none, fun a b g _ _ _ h => ?_, hN, fun a _ x h => ?_, fun a _ j k x y _ h => ?_⟩, ⟨hb, NL.none⟩, fun g h => ?_, hBb⟩
  · show N ≤ _; omega
  · cases h
  · cases h
  · simp at h
  · rcases h with rfl | rfl | ⟨a, _, h⟩
    · exact hBt
    · exact hBo
    · cases h
theorem ar_lt (n : Nat) (h : n < 100000000) : (n : Int) < 100000000 := by omega
def risC (N : Nat) (X Y : Nat → Int) : Prop := ∀ i, i + 1 < N → cmpP (X i) (Y i) (X (i + 1)) (Y (i + 1)) < 0
set_option maxRecDepth 100000 in
set_option maxHeartbeats 4000000 in
theorem Build_ok (ao : Option Addr) (N cap : Nat) (X Y : Nat → Int) (w : World) (h : Pts w ao N cap X Y) (hN : N ≤ 4096) (hg : allC N X Y = true) (hr : risC N X Y) (hok : ∀ q, isLn N X Y q → q < N → BldOk N X Y q) :
    Calls Try.prog 12 #[.slice ao N cap] w fun e w' => ∃ (t : Nat) (D : SD) (q : Nat), e = .returned (.tuple #[ptr t 0, .int .i64 0]) ∧ isLn N X Y q ∧
      SM w' t D N X Y (if q = N then fun _ => [] else putAll (fun _ => []) (bld X Y q (N - 1 - q)).2) (if q = N then 0 else ((bld X Y q (N - 1 - q)).2.length : Nat)) ∧ (∀ g, D.has t N g → w.heap.size ≤ g) ∧ Below w.heap.size w w' := by
 have hcl := h.capl
 have hcb := h.capb
 have HO := Lib.hid h
 have HG := Lib.hid hg
 have HR := Lib.hid hr
 have HK := Lib.hid hok
 clear h hg hr hok
 go_enter Try.func12, Try.ntmps12
 go_wp2_with fail
 go_loopg [15] N (fun gk s15 wr => ∃ k : Nat, s15 = .int .i64 k ∧ k ≤ N ∧ N - k ≤ gk ∧ Hid (Below w.heap.size w wr))
 case atStart => exact ⟨0, rfl, Nat.zero_le _, by omega, Lib.hid (Below.refl _ _)⟩
 case round =>
  obtain ⟨k, rfl, hk, hgk, HW⟩ := hrel
  by_cases hlt : k < N
  ·obtain ⟨a, rfl, p0, p1⟩ := HO.out.at HW.out hlt
   obtain ⟨px, hpx⟩ : ∃ x, X k = x := ⟨_, rfl⟩
   obtain ⟨py, hpy⟩ : ∃ x, Y k = x := ⟨_, rfl⟩
   have hrp : rp px py = true := by rw [← hpx, ← hpy]; exact List.all_eq_true.1 (by have := HG.out; unfold allC at this; exact this) k (List.mem_range.2 hlt)
   rw [hpx] at p0
   rw [hpy] at p1
   have HRP := Lib.hid hrp
   clear hpx hpy hrp
   go_wp2_with fail
   refine calls_w ?_
   intro V hV
   have hbV : Below wr.heap.size wr V := by rw [hV]; exact below_a1 _ _
   clear hV p0 p1
   have hpr := PtRight_any px py V
   rw [show (inC px && inC py) = true from HRP.out] at hpr
   refine hpr.mono ?_
   rintro e W2 ⟨rfl, hn⟩
   have HW2 := Lib.hid ((HW.out.trans (hbV.mono HW.out.size)).trans (hn.mono (HW.out.trans (hbV.mono HW.out.size)).size))
   clear hn hbV HW hpr
   go_wp2_with fail
   go_roundg (N - (k + 1))
   case measure => omega
   case rel => exact ⟨k + 1, by norm_cast, by omega, Nat.le_refl _, HW2⟩
  ·go_wp2_with fail
   clear hk hgk hlt
   go_loopg [6] N (fun gk s6 wr => ∃ k : Nat, s6 = .int .i64 k ∧ 1 ≤ k ∧ (k ≤ N ∨ k = 1) ∧ N - k ≤ gk ∧ Hid (Below w.heap.size w wr))
   case atStart => exact ⟨1, rfl, Nat.le_refl _, .inr rfl, by omega, HW⟩
   case round =>
    clear HW
    obtain ⟨k, rfl, hk1, hk, hgk, HW⟩ := hrel
    by_cases hlt : k < N
    ·obtain ⟨i, rfl⟩ : ∃ i, k = i + 1 := ⟨k - 1, by omega⟩
     obtain ⟨pa, rfl, hpt⟩ := (HO.out.of HW.out).atP (by omega)
     have qa := hpt i (by omega)
     have qb := hpt (i + 1) hlt
     have hcm := HR.out i hlt
     obtain ⟨ax, hax⟩ : ∃ x, X i = x := ⟨_, rfl⟩
     obtain ⟨ay, hay⟩ : ∃ x, Y i = x := ⟨_, rfl⟩
     obtain ⟨bx, hbx⟩ : ∃ x, X (i + 1) = x := ⟨_, rfl⟩
     obtain ⟨b_y, hby⟩ : ∃ x, Y (i + 1) = x := ⟨_, rfl⟩
     rw [hax, hay] at qa
     rw [hbx, hby] at qb
     rw [hax, hay, hbx, hby] at hcm
     have qa0 := fun u => (qa u).1
     have qa1 := fun u => (qa u).2
     have qb0 := fun u => (qb u).1
     have qb1 := fun u => (qb u).2
     obtain ⟨r, hr⟩ : ∃ r, cmpP ax ay bx b_y = r := ⟨_, rfl⟩
     rw [hr] at hcm
     have HC := Lib.hid hr
     have hii : ((i + 1 : Nat) : Int) - 1 = (i : Int) := by omega
     clear hpt qa qb hax hay hbx hby hr
     have hbk := HW.out
     go_wp2_with fail
     refine wp_region_up wr.heap.size 9 [(true, 0), (true, 1), (true, 2), (true, 3), (true, 4), (true, 5), (true, 6), (true, 7), (true, 8)] (by kernel_rfl) (by kernel_rfl) (fun _ _ d _ _ h => by cases d <;> exact h) ?_
     have hb : Below wr.heap.size wr wr.drew := (Below.refl _ _).drew
     iterate 9
      first | refine wpS_takeL rfl rfl ?_ | refine wpS_takeB rfl rfl rfl ?_
      first | go_big_quiet_step (rfl) | (go_big_quiet_want; go_big_quiet_op; refine ⟨_, fun _ => rfl, ?_⟩; go_big_quiet_on)
      refine wpQuiet_nil ?_
     refine wpS_nil ?_
     simp only [List.drop_succ_cons, List.drop_zero]
     go_wp2_with fail
     refine (PtCmp_is ax ay bx b_y r HC.out _).mono ?_
     rintro e W2 ⟨rfl, hn⟩
     have HW2 := Lib.hid ((hbk.trans (hb.mono hbk.size)).trans (hn.mono (hbk.trans (hb.mono hbk.size)).size))
     have hrn : ¬ 0 ≤ r := by omega
     clear hn hb hbk HW qa0 qa1 qb0 qb1
     go_wp2_with fail
     go_roundg (N - (i + 1 + 1))
     case measure => omega
     case rel => exact ⟨i + 1 + 1, by norm_cast, by omega, by omega, Nat.le_refl _, HW2⟩
    ·go_wp2_with fail
     clear hk1 hk hgk hlt
     obtain ⟨MC, hmk, hMC⟩ := make_rows N hN
     have HMC := Lib.hid hMC
     clear hMC
     go_region_with (go_at_call 42; go_loud (refine (ClonePt_is ao N cap X Y _ (HO.out.of (by repeat' (first | with_reducible exact HW.out | with_reducible refine Below.drew ?_ | with_reducible refine Below.alloc ?_ ?_ _ | (have := HW.out.size; simp; omega)))) hN).mono ?_; rintro e w2 ⟨v2, rfl, hpo, hb2⟩; obtain ⟨ao2, cap2, rfl, hp2, hty2⟩ := hpo.pts; clear hpo))
     ·go_wp2_with fail
      refine calls_w ?_
      intro V hV
      have hBW := HW.out
      obtain ⟨HB, HWV⟩ : Hid (BS w.heap.size V (w2.heap.size + 1 + 1) (w2.heap.size + 1) ⟨ao2, cap2, w2.heap.size, N, fun _ => .slice none 0 0⟩ (.slice none 0 0) N X Y (fun _ => []) 0 []) ∧ Hid (Below w.heap.size w V) := by
       have hsz := hBW.size
       have h2 : wr.drew.heap.size ≤ w2.heap.size := hb2.size
       have h3 : wr.drew.heap.size = wr.heap.size := rfl
       have hw2 : Below w.heap.size w w2 := hBW.drew.trans (hb2.mono (by omega))
       have hV2 : Below w2.heap.size w2 V := by rw [hV]; exact (((Below.refl _ _).alloc (Nat.le_refl _) _).alloc (by simp) _).alloc (by simp; omega) _
       refine ⟨Lib.hid (BS.new (MC := MC) (by rw [hV]; exact (Blk.new1 w2 _ _ _).alloc _) (by rw [hV]; exact Blk.new2 w2 _ _ _ _) (by rw [hV]; exact ((Blk.new w2 _ _).alloc _).alloc _) HMC.out (hp2.of hV2) (fun h0 => ?_) hN (by omega) (by omega) (by omega)), Lib.hid (hw2.trans (hV2.mono (by omega)))⟩
       obtain ⟨a, cur, e1, _, e2⟩ := hty2 h0
       exact ⟨a, cur, e1, (hV2.block _ (Array.getElem?_eq_some_iff.1 e2).1).trans e2⟩
      obtain ⟨D, hD⟩ : ∃ D : SD, D = ⟨ao2, cap2, w2.heap.size, N, fun _ => .slice none 0 0⟩ := ⟨_, rfl⟩
      rw [← hD] at HB
      obtain ⟨bb, hbb⟩ : ∃ b : Nat, b = (w2.heap.size + 1 + 1) := ⟨_, rfl⟩
      rw [← hbb] at HB
      obtain ⟨t, ht⟩ : ∃ t : Nat, t = (w2.heap.size + 1) := ⟨_, rfl⟩
      rw [← ht] at HB
      rw [← hbb, ← ht]
      clear hD ht hbb hBW hV hb2 hp2 hty2 HW hmk HMC
      refine (line_is ao N cap X Y V (HO.out.of HWV.out) hN).mono ?_
      rintro e W3 ⟨q, rfl, hq, hb3⟩
      have HB3 := Lib.hid (HB.out.of hb3)
      have HW3 := Lib.hid (HWV.out.trans (hb3.mono HWV.out.size))
      have HQ := Lib.hid hq
      clear hb3 HB HWV
      by_cases hqN : q = N
      ·have c0 := HB3.out.bm.blk.cell 0
       have hqi : (q : Int) = (N : Int) := by rw [hqN]
       have HQN := Lib.hid hqN
       clear hqN hq
       go_wp2
       simp [bodyPost, results, Try.results12, go_sem]
       refine ⟨D, q, HQ.out, ?_, HB3.out.dB, HW3.out⟩
       have e1 : (if q = N then fun (_ : Nat) => ([] : List (Nat × Nat)) else putAll (fun _ => []) (bld X Y q (N - 1 - q)).2) = fun _ => [] := if_pos HQN.out
       have e2 : (if q = N then (0 : Int) else ((bld X Y q (N - 1 - q)).2.length : Nat)) = 0 := if_pos HQN.out
       rw [e1, e2]
       exact HB3.out.sm
      ·have hlt : q < N := by have := hq.2.1; omega
       have hq2 : 2 ≤ q := by have := hq.1; omega
       have HKQ := Lib.hid (HK.out q hq hlt)
       have hqi : ¬ (q : Int) = (N : Int) := by omega
       clear hq
       go_wp2_with fail
       refine (begin_is w.heap.size bb t D N X Y (fun _ => []) q W3 HB3.out hq2 hlt (HKQ.out.put 0 hlt)).mono ?_
       rintro e W4 ⟨rfl, D4, hv4, hB4, hb4⟩
       rw [show ((q : Int) - 1) = (((bld X Y q 0).2.length : Nat) : Int) by show _ = (((begT (begH X Y q) q).length : Nat) : Int); rw [begT_len]; omega] at hB4
       have HB4 : Hid (BS w.heap.size W4 bb t D4 hv4 N X Y (putAll (fun _ => []) (bld X Y q 0).2) (((bld X Y q 0).2.length : Nat) : Int) (bld X Y q 0).1) := Lib.hid hB4
       have HW4 := Lib.hid (HW3.out.trans hb4)
       clear hB4 hb4 HB3 HW3
       go_wp2_with fail
       go_loopg [9] N (fun gk s9 wz => ∃ (i k : Nat) (D5 : SD) (hv5 : Value), s9 = .int .i64 i ∧ Hid (i = q + k + 1) ∧ i ≤ N ∧ N - i ≤ gk ∧ Hid (BS w.heap.size wz bb t D5 hv5 N X Y (putAll (fun _ => []) (bld X Y q k).2) (((bld X Y q k).2.length : Nat) : Int) (bld X Y q k).1) ∧ Hid (Below w.heap.size w wz))
       case atStart => exact ⟨q + 1, 0, D4, hv4, rfl, Lib.hid rfl, hlt, by omega, HB4, HW4⟩
       case round =>
        clear HB4 HW4
        obtain ⟨i, k, D5, hv5, rfl, HI, hi, hg, HB5, HW5⟩ := hrel
        by_cases hil : i < N
        ·have hkN : q + k + 1 < N := by rw [← HI.out]; exact hil
         have hA := HKQ.out.add k hkN
         have hPP := (putOk_app N (fun _ => []) (bld X Y q k).2 _).1 (HKQ.out.put (k + 1) hkN)
         have hc := HKQ.out.cnt k (Nat.lt_of_succ_lt hkN)
         have hln := HKQ.out.len k (Nat.lt_of_succ_lt hkN)
         have hdm := HKQ.out.dom k (Nat.lt_of_succ_lt hkN)
         have HAA := Lib.hid (And.intro hA (And.intro hPP.2 (And.intro hc (And.intro hln hdm))))
         clear hA hPP hc hln hdm hkN
         go_wp2_with fail
         have hadd := add_is w.heap.size bb t D5 hv5 N X Y _ _ _ (q + k + 1) _ _ wr HB5.out (by rw [← HI.out]; exact hil) HAA.out.2.2.2.2 HAA.out.2.2.2.1 HAA.out.1 HAA.out.2.1 ⟨Int.natCast_nonneg _, ar_lt _ HAA.out.2.2.1⟩
         rw [← HI.out] at hadd
         refine hadd.mono ?_
         rintro e W6 ⟨rfl, D6, hv6, hB6, hb6⟩
         have hB7 : BS w.heap.size W6 bb t D6 hv6 N X Y (putAll (fun _ => []) (bld X Y q (k + 1)).2) (((bld X Y q (k + 1)).2.length : Nat) : Int) (bld X Y q (k + 1)).1 := by
          rw [HI.out] at hB6
          show BS w.heap.size W6 bb t D6 hv6 N X Y (putAll (fun _ => []) ((bld X Y q k).2 ++ _)) ((((bld X Y q k).2 ++ _).length : Nat) : Int) _
          rw [putAll_app, List.length_append, addT_len]
          exact_mod_cast hB6
         have HB7 := Lib.hid hB7
         have HW7 := Lib.hid (HW5.out.trans hb6)
         clear hB6 hb6 hB7 HB5 HW5 hadd HAA
         go_wp2_with fail
         go_roundg (N - (i + 1))
         case measure => omega
         case rel => exact ⟨i + 1, k + 1, D6, hv6, rfl, Lib.hid (by have := HI.out; omega), hil, Nat.le_refl _, HB7, HW7⟩
        ·have hiN : i = N := Nat.le_antisymm hi (Nat.le_of_not_lt hil)
         have HIN := Lib.hid hiN
         have c0 := HB5.out.bm.blk.cell 0
         clear hiN hi hg
         go_wp2
         simp [bodyPost, results, Try.results12, go_sem]
         refine ⟨D5, q, HQ.out, ?_, HB5.out.dB, HW5.out⟩
         have hk : N - 1 - q = k := by have h1 := HI.out; have h2 := HIN.out; omega
         have e1 : (if q = N then fun (_ : Nat) => ([] : List (Nat × Nat)) else putAll (fun _ => []) (bld X Y q (N - 1 - q)).2) = putAll (fun _ => []) (bld X Y q k).2 := by rw [if_neg hqN, hk]
         have e2 : (if q = N then (0 : Int) else (((bld X Y q (N - 1 - q)).2.length : Nat) : Int)) = (((bld X Y q k).2.length : Nat) : Int) := by rw [if_neg hqN, hk]
         rw [e1, e2]
         exact HB5.out.sm
     ·go_wp2_with fail
      refine calls_w ?_
      intro V hV
      have hBW := HW.out
      obtain ⟨HB, HWV⟩ : Hid (BS w.heap.size V (w2.heap.size + 1) w2.heap.size ⟨ao2, cap2, wr.heap.size, N, fun _ => .slice none 0 0⟩ (.slice none 0 0) N X Y (fun _ => []) 0 []) ∧ Hid (Below w.heap.size w V) := by
       have hsz := hBW.size
       obtain ⟨w1, hw1⟩ : ∃ w1 : World, w1 = (wr.alloc (.cells MC 103)).drew := ⟨_, rfl⟩
       have hS1 : w1.heap.size = wr.heap.size + 1 := by rw [hw1]; simp [World.drew]
       have hk1 : Blk w1 wr.heap.size MC 103 := by rw [hw1]; exact Blk.new wr _ _
       have hb1 : Below w.heap.size w w1 := by rw [hw1]; exact (hBW.alloc hsz _).drew
       rw [← hw1] at hb2 hty2
       have h2 : w1.heap.size ≤ w2.heap.size := hb2.size
       have hw2 : Below w.heap.size w w2 := hb1.trans (hb2.mono (by omega))
       have hV2 : Below w2.heap.size w2 V := by rw [hV]; exact ((Below.refl _ _).alloc (Nat.le_refl _) _).alloc (by simp) _
       refine ⟨Lib.hid (BS.new (MC := MC) (by rw [hV]; exact (Blk.new w2 _ _).alloc _) (by rw [hV]; exact Blk.new1 w2 _ _ _) ((hk1.of hb2).of hV2) HMC.out (hp2.of hV2) (fun h0 => ?_) hN (by omega) (by omega) (by omega)), Lib.hid (hw2.trans (hV2.mono (by omega)))⟩
       obtain ⟨a, cur, e1, _, e2⟩ := hty2 h0
       exact ⟨a, cur, e1, (hV2.block _ (Array.getElem?_eq_some_iff.1 e2).1).trans e2⟩
      obtain ⟨D, hD⟩ : ∃ D : SD, D = ⟨ao2, cap2, wr.heap.size, N, fun _ => .slice none 0 0⟩ := ⟨_, rfl⟩
      rw [← hD] at HB
      obtain ⟨bb, hbb⟩ : ∃ b : Nat, b = (w2.heap.size + 1) := ⟨_, rfl⟩
      rw [← hbb] at HB
      obtain ⟨t, ht⟩ : ∃ t : Nat, t = w2.heap.size := ⟨_, rfl⟩
      rw [← ht] at HB
      rw [← hbb, ← ht]
      clear hD ht hbb hBW hV hb2 hp2 hty2 HW hmk HMC
      refine (line_is ao N cap X Y V (HO.out.of HWV.out) hN).mono ?_
      rintro e W3 ⟨q, rfl, hq, hb3⟩
      have HB3 := Lib.hid (HB.out.of hb3)
      have HW3 := Lib.hid (HWV.out.trans (hb3.mono HWV.out.size))
      have HQ := Lib.hid hq
      clear hb3 HB HWV
      by_cases hqN : q = N
      ·have c0 := HB3.out.bm.blk.cell 0
       have hqi : (q : Int) = (N : Int) := by rw [hqN]
       have HQN := Lib.hid hqN
       clear hqN hq
       go_wp2
       simp [bodyPost, results, Try.results12, go_sem]
       refine ⟨D, q, HQ.out, ?_, HB3.out.dB, HW3.out⟩
       have e1 : (if q = N then fun (_ : Nat) => ([] : List (Nat × Nat)) else putAll (fun _ => []) (bld X Y q (N - 1 - q)).2) = fun _ => [] := if_pos HQN.out
       have e2 : (if q = N then (0 : Int) else ((bld X Y q (N - 1 - q)).2.length : Nat)) = 0 := if_pos HQN.out
       rw [e1, e2]
       exact HB3.out.sm
      ·have hlt : q < N := by have := hq.2.1; omega
       have hq2 : 2 ≤ q := by have := hq.1; omega
       have HKQ := Lib.hid (HK.out q hq hlt)
       have hqi : ¬ (q : Int) = (N : Int) := by omega
       clear hq
       go_wp2_with fail
       refine (begin_is w.heap.size bb t D N X Y (fun _ => []) q W3 HB3.out hq2 hlt (HKQ.out.put 0 hlt)).mono ?_
       rintro e W4 ⟨rfl, D4, hv4, hB4, hb4⟩
       rw [show ((q : Int) - 1) = (((bld X Y q 0).2.length : Nat) : Int) by show _ = (((begT (begH X Y q) q).length : Nat) : Int); rw [begT_len]; omega] at hB4
       have HB4 : Hid (BS w.heap.size W4 bb t D4 hv4 N X Y (putAll (fun _ => []) (bld X Y q 0).2) (((bld X Y q 0).2.length : Nat) : Int) (bld X Y q 0).1) := Lib.hid hB4
       have HW4 := Lib.hid (HW3.out.trans hb4)
       clear hB4 hb4 HB3 HW3
       go_wp2_with fail
       go_loopg [9] N (fun gk s9 wz => ∃ (i k : Nat) (D5 : SD) (hv5 : Value), s9 = .int .i64 i ∧ Hid (i = q + k + 1) ∧ i ≤ N ∧ N - i ≤ gk ∧ Hid (BS w.heap.size wz bb t D5 hv5 N X Y (putAll (fun _ => []) (bld X Y q k).2) (((bld X Y q k).2.length : Nat) : Int) (bld X Y q k).1) ∧ Hid (Below w.heap.size w wz))
       case atStart => exact ⟨q + 1, 0, D4, hv4, rfl, Lib.hid rfl, hlt, by omega, HB4, HW4⟩
       case round =>
        clear HB4 HW4
        obtain ⟨i, k, D5, hv5, rfl, HI, hi, hg, HB5, HW5⟩ := hrel
        by_cases hil : i < N
        ·have hkN : q + k + 1 < N := by rw [← HI.out]; exact hil
         have hA := HKQ.out.add k hkN
         have hPP := (putOk_app N (fun _ => []) (bld X Y q k).2 _).1 (HKQ.out.put (k + 1) hkN)
         have hc := HKQ.out.cnt k (Nat.lt_of_succ_lt hkN)
         have hln := HKQ.out.len k (Nat.lt_of_succ_lt hkN)
         have hdm := HKQ.out.dom k (Nat.lt_of_succ_lt hkN)
         have HAA := Lib.hid (And.intro hA (And.intro hPP.2 (And.intro hc (And.intro hln hdm))))
         clear hA hPP hc hln hdm hkN
         go_wp2_with fail
         have hadd := add_is w.heap.size bb t D5 hv5 N X Y _ _ _ (q + k + 1) _ _ wr HB5.out (by rw [← HI.out]; exact hil) HAA.out.2.2.2.2 HAA.out.2.2.2.1 HAA.out.1 HAA.out.2.1 ⟨Int.natCast_nonneg _, ar_lt _ HAA.out.2.2.1⟩
         rw [← HI.out] at hadd
         refine hadd.mono ?_
         rintro e W6 ⟨rfl, D6, hv6, hB6, hb6⟩
         have hB7 : BS w.heap.size W6 bb t D6 hv6 N X Y (putAll (fun _ => []) (bld X Y q (k + 1)).2) (((bld X Y q (k + 1)).2.length : Nat) : Int) (bld X Y q (k + 1)).1 := by
          rw [HI.out] at hB6
          show BS w.heap.size W6 bb t D6 hv6 N X Y (putAll (fun _ => []) ((bld X Y q k).2 ++ _)) ((((bld X Y q k).2 ++ _).length : Nat) : Int) _
          rw [putAll_app, List.length_append, addT_len]
          exact_mod_cast hB6
         have HB7 := Lib.hid hB7
         have HW7 := Lib.hid (HW5.out.trans hb6)
         clear hB6 hb6 hB7 HB5 HW5 hadd HAA
         go_wp2_with fail
         go_roundg (N - (i + 1))
         case measure => omega
         case rel => exact ⟨i + 1, k + 1, D6, hv6, rfl, Lib.hid (by have := HI.out; omega), hil, Nat.le_refl _, HB7, HW7⟩
        ·have hiN : i = N := Nat.le_antisymm hi (Nat.le_of_not_lt hil)
         have HIN := Lib.hid hiN
         have c0 := HB5.out.bm.blk.cell 0
         clear hiN hi hg
         go_wp2
         simp [bodyPost, results, Try.results12, go_sem]
         refine ⟨D5, q, HQ.out, ?_, HB5.out.dB, HW5.out⟩
         have hk : N - 1 - q = k := by have h1 := HI.out; have h2 := HIN.out; omega
         have e1 : (if q = N then fun (_ : Nat) => ([] : List (Nat × Nat)) else putAll (fun _ => []) (bld X Y q (N - 1 - q)).2) = putAll (fun _ => []) (bld X Y q k).2 := by rw [if_neg hqN, hk]
         have e2 : (if q = N then (0 : Int) else (((bld X Y q (N - 1 - q)).2.length : Nat) : Int)) = (((bld X Y q k).2.length : Nat) : Int) := by rw [if_neg hqN, hk]
         rw [e1, e2]
         exact HB5.out.sm
end Go.Proofs.Ytdlpfiiakmhnlaa

namespace Go.Proofs.Ytdlpfiiakmhnlaa
open Go.RowKit

def gT (X Y : Nat → Int) (a b c : Nat) : Int := (X b - X a) * (Y c - Y a) - (Y b - Y a) * (X c - X a)
section
variable {X Y : Nat → Int}
theorem gT_rot (a b c : Nat) : gT X Y b c a = gT X Y a b c := by unfold gT; grind
theorem gT_swap (a b c : Nat) : gT X Y b a c = -gT X Y a b c := by unfold gT; grind
theorem g_pos_of {x y : Int} (h : 0 < x) (k : 0 < x * y) : 0 < y := by
  rcases Int.lt_or_le 0 y with h1 | h1
  · exact h1
  · have := Int.mul_le_mul_of_nonneg_left h1 (Int.le_of_lt h); simp at this; omega
theorem g_nonneg_of {x y : Int} (h : 0 < x) (k : 0 ≤ x * y) : 0 ≤ y := by
  rcases Int.lt_or_le y 0 with h1 | h1
  · have := Int.mul_lt_mul_of_pos_left h1 h; simp at this; omega
  · exact h1
theorem g_zero_of {x y : Int} (h : x ≠ 0) (k : x * y = 0) : y = 0 := by
  rcases Int.mul_eq_zero.1 k with h1 | h1
  · exact absurd h1 h
  · exact h1
def gRis (X : Nat → Int) (N : Nat) : Prop := ∀ i j, i < j → j < N → X i < X j
/-- no point up to m lies to the right of the way from a to b, none upon it -/
def gE (X Y : Nat → Int) (m a b : Nat) : Prop := ∀ k, k ≤ m → 0 ≤ gT X Y a b k ∧ (gT X Y a b k = 0 → ¬ (a < k ∧ k < b) ∧ ¬ (b < k ∧ k < a))
theorem gT_pl (y x z p k : Nat) : gT X Y y x z * gT X Y x p k = gT X Y y x p * gT X Y x z k - gT X Y y x k * gT X Y x z p := by unfold gT; grind
theorem gT_end1 (a b : Nat) : gT X Y a b a = 0 := by unfold gT; grind
theorem gT_end2 (a b : Nat) : gT X Y a b b = 0 := by unfold gT; grind
theorem gT_xab (o a b c : Nat) : (X a - X o) * gT X Y o b c + (X b - X o) * gT X Y o c a + (X c - X o) * gT X Y o a b = 0 := by unfold gT; grind
/-- y, x, z on one line: the ways' turns agree up to the length -/
theorem gT_par {y x z k : Nat} (h : gT X Y y x z = 0) : (X z - X x) * gT X Y y x k = (X x - X y) * gT X Y x z k := by
  have : (X z - X x) * gT X Y y x k = (X x - X y) * gT X Y x z k + gT X Y y x z * (X k - X x) := by unfold gT; grind
  rw [h] at this; simpa using this
theorem g_mul_pos {a b : Int} (ha : 0 < a) (hb : 0 < b) : 0 < a * b := Int.mul_pos ha hb
/-- three neighbours on the hull on one line run on -/
theorem runs_on {N m y x z : Nat} (_ : gRis X N) (_ : m < N) (hy : y ≤ m) (_ : x ≤ m) (hz : z ≤ m) (n1 : y ≠ x) (n2 : x ≠ z) (n3 : y ≠ z) (e1 : gE X Y m y x) (e2 : gE X Y m x z) (h0 : gT X Y y x z = 0) :
    (y < x ∧ x < z) ∨ (z < x ∧ x < y) := by
  have a1 := (e1 z hz).2 h0
  have a2 := (e2 y hy).2 (by rw [gT_rot]; exact h0)
  omega
theorem same_sgn {N m y x z k : Nat} (hX : gRis X N) (hm : m < N) (hy : y ≤ m) (hx : x ≤ m) (hz : z ≤ m) (n1 : y ≠ x) (n2 : x ≠ z) (n3 : y ≠ z) (e1 : gE X Y m y x) (e2 : gE X Y m x z) (h0 : gT X Y y x z = 0) :
    (gT X Y y x k < 0 ↔ gT X Y x z k < 0) := by
  have hp := gT_par (k := k) h0
  rcases runs_on hX hm hy hx hz n1 n2 n3 e1 e2 h0 with ⟨h1, h2⟩ | ⟨h1, h2⟩
  · have q1 := hX y x h1 (by omega)
    have q2 := hX x z h2 (by omega)
    constructor
    · intro h
      have : 0 < (X z - X x) * -gT X Y y x k := g_mul_pos (by omega) (by omega)
      have : 0 < (X x - X y) * -gT X Y x z k := by rw [Int.mul_neg] at this ⊢; omega
      have := g_pos_of (by omega) this
      omega
    · intro h
      have : 0 < (X x - X y) * -gT X Y x z k := g_mul_pos (by omega) (by omega)
      have : 0 < (X z - X x) * -gT X Y y x k := by rw [Int.mul_neg] at this ⊢; omega
      have := g_pos_of (by omega) this
      omega
  · have q1 := hX z x h1 (by omega)
    have q2 := hX x y h2 (by omega)
    constructor
    · intro h
      have : 0 < (X x - X z) * -gT X Y y x k := g_mul_pos (by omega) (by omega)
      have : 0 < (X y - X x) * -gT X Y x z k := by grind
      have := g_pos_of (by omega) this
      omega
    · intro h
      have : 0 < (X y - X x) * -gT X Y x z k := g_mul_pos (by omega) (by omega)
      have : 0 < (X x - X z) * -gT X Y y x k := by grind
      have := g_pos_of (by omega) this
      omega
theorem gT_ray {x z p k : Nat} (h : gT X Y x p k = 0) : gT X Y x z k * (X p - X x) = gT X Y x z p * (X k - X x) := by
  have : gT X Y x z k * (X p - X x) = gT X Y x z p * (X k - X x) + gT X Y x p k * (X z - X x) := by unfold gT; grind
  rw [h] at this; simpa using this
/-- at the first seen way: all lies to the left of the way to the new point -/
theorem g_cone_l {N m y x z p : Nat} (hX : gRis X N) (hm : m < p) (hp : p < N) (hy : y ≤ m) (hx : x ≤ m) (hz : z ≤ m) (n1 : y ≠ x) (n2 : x ≠ z) (n3 : y ≠ z) (e1 : gE X Y m y x) (e2 : gE X Y m x z)
    (h1 : 0 ≤ gT X Y y x p) (h2 : gT X Y x z p < 0) (k : Nat) (hk : k ≤ m) : 0 ≤ gT X Y x p k ∧ (gT X Y x p k = 0 → ¬ (x < k ∧ k < p)) := by
  have hn : gT X Y y x z ≠ 0 := fun h0 => by
    have := (same_sgn (k := p) hX (by omega) hy hx hz n1 n2 n3 e1 e2 h0).2 h2; omega
  have hpz : 0 < gT X Y y x z := by have := (e1 z hz).1; omega
  have i := gT_pl (X := X) (Y := Y) y x z p k
  have g1 := Int.mul_nonneg h1 (e2 k hk).1
  have g2 : 0 ≤ gT X Y y x k * -gT X Y x z p := Int.mul_nonneg (e1 k hk).1 (by omega)
  rw [Int.mul_neg] at g2
  refine ⟨g_nonneg_of hpz (by omega), fun h0 ⟨c1, c2⟩ => ?_⟩
  have r := gT_ray (z := z) h0
  have q1 := hX x k c1 (by omega)
  have q2 := hX x p (by omega) hp
  have : 0 < -gT X Y x z p * (X k - X x) := g_mul_pos (by omega) (by omega)
  have : 0 ≤ gT X Y x z k * (X p - X x) := Int.mul_nonneg (e2 k hk).1 (by omega)
  rw [Int.neg_mul] at *
  omega
theorem gT_ray2 {x y p k : Nat} (h : gT X Y p x k = 0) : gT X Y y x k * (X p - X x) = gT X Y y x p * (X k - X x) := by
  have : gT X Y y x k * (X p - X x) = gT X Y y x p * (X k - X x) + gT X Y p x k * (X y - X x) := by unfold gT; grind
  rw [h] at this; simpa using this
/-- at the last seen way -/
theorem g_cone_u {N m y x z p : Nat} (hX : gRis X N) (hm : m < p) (hp : p < N) (hy : y ≤ m) (hx : x ≤ m) (hz : z ≤ m) (n1 : y ≠ x) (n2 : x ≠ z) (n3 : y ≠ z) (e1 : gE X Y m y x) (e2 : gE X Y m x z)
    (h1 : gT X Y y x p < 0) (h2 : 0 ≤ gT X Y x z p) (k : Nat) (hk : k ≤ m) : 0 ≤ gT X Y p x k ∧ (gT X Y p x k = 0 → ¬ (x < k ∧ k < p)) := by
  have hn : gT X Y y x z ≠ 0 := fun h0 => by
    have := (same_sgn (k := p) hX (by omega) hy hx hz n1 n2 n3 e1 e2 h0).1 h1; omega
  have hpz : 0 < gT X Y y x z := by have := (e1 z hz).1; omega
  have i := gT_pl (X := X) (Y := Y) y x z p k
  have g1 : 0 ≤ -gT X Y y x p * gT X Y x z k := Int.mul_nonneg (by omega) (e2 k hk).1
  have g2 : 0 ≤ gT X Y y x k * gT X Y x z p := Int.mul_nonneg (e1 k hk).1 h2
  rw [Int.neg_mul] at g1
  refine ⟨g_nonneg_of hpz (by rw [gT_swap x p k, Int.mul_neg]; omega), fun h0 ⟨c1, c2⟩ => ?_⟩
  have r := gT_ray2 (y := y) h0
  have q1 := hX x k c1 (by omega)
  have q2 := hX x p (by omega) hp
  have : 0 < -gT X Y y x p * (X k - X x) := g_mul_pos (by omega) (by omega)
  have : 0 ≤ gT X Y y x k * (X p - X x) := Int.mul_nonneg (e1 k hk).1 (by omega)
  rw [Int.neg_mul] at *
  omega
/-- the last point sees a way beside the last but one -/
theorem last_sees {N m y z p : Nat} (hX : gRis X N) (hm : m < p) (hp : p < N) (hy : y < m) (hz : z < m) (n3 : y ≠ z) (e1 : gE X Y m y m) (e2 : gE X Y m m z) : ¬ (0 ≤ gT X Y y m p ∧ 0 ≤ gT X Y m z p) := by
  rintro ⟨h1, h2⟩
  have i := gT_xab (X := X) (Y := Y) m y z p
  have q1 := hX y m hy (by omega)
  have q2 := hX z m hz (by omega)
  have q3 := hX m p hm hp
  have h3 := (e1 z (by omega)).1
  have r1 : gT X Y m p y = gT X Y y m p := gT_rot y m p
  have r2 : gT X Y m y z = -gT X Y y m z := gT_swap y m z
  rw [r1, r2] at i
  have g1 : 0 ≤ (X m - X y) * gT X Y m z p := Int.mul_nonneg (by omega) h2
  have g2 : 0 ≤ (X m - X z) * gT X Y y m p := Int.mul_nonneg (by omega) h1
  have g3 : 0 ≤ (X p - X m) * gT X Y y m z := Int.mul_nonneg (by omega) h3
  have g0 : (X m - X y) * gT X Y m z p + (X m - X z) * gT X Y y m p + (X p - X m) * gT X Y y m z = 0 := by grind
  have g4 : (X p - X m) * gT X Y y m z = 0 := by omega
  have h0 := g_zero_of (by omega) g4
  have := runs_on hX (by omega) (by omega) (Nat.le_refl _) (by omega) (by omega) (by omega) n3 e1 e2 h0
  omega
/-- a point behind all others doesn't see both ways beside the first point -/
theorem zero_not {N m y z p : Nat} (hX : gRis X N) (hm : m < p) (hp : p < N) (hy : 0 < y) (hz : 0 < z) (hym : y ≤ m) (hzm : z ≤ m) (e1 : gE X Y m y 0) : ¬ (gT X Y y 0 p < 0 ∧ gT X Y 0 z p < 0) := by
  rintro ⟨h1, h2⟩
  have i := gT_xab (X := X) (Y := Y) 0 y z p
  have q1 := hX 0 y hy (by omega)
  have q2 := hX 0 z hz (by omega)
  have q3 := hX 0 p (by omega) hp
  have h3 := (e1 z hzm).1
  have r1 : gT X Y 0 p y = gT X Y y 0 p := gT_rot y 0 p
  have r2 : gT X Y 0 y z = -gT X Y y 0 z := gT_swap y 0 z
  rw [r1, r2] at i
  have g1 : 0 < (X y - X 0) * -gT X Y 0 z p := g_mul_pos (by omega) (by omega)
  have g2 : 0 < (X z - X 0) * -gT X Y y 0 p := g_mul_pos (by omega) (by omega)
  have g3 : 0 ≤ (X p - X 0) * gT X Y y 0 z := Int.mul_nonneg (by omega) h3
  rw [Int.mul_neg] at g1 g2 i
  omega
end
theorem rise_ex (s : Nat → Bool) (n : Nat) : ∀ d i, s i = false → s ((i + d) % n) = true → i < n → ∃ r, r < n ∧ s r = true ∧ s ((r + n - 1) % n) = false := by
  intro d
  induction d with
  | zero => intro i h1 h2 hi; rw [Nat.add_zero, Nat.mod_eq_of_lt hi, h1] at h2; cases h2
  | succ d ih =>
    intro i h1 h2 hi
    rcases hc : s ((i + d) % n) with _ | _
    · refine ⟨(i + (d + 1)) % n, Nat.mod_lt _ (by omega), h2, ?_⟩
      have : ((i + (d + 1)) % n + n - 1) % n = (i + d) % n := by
        have h3 : (i + (d + 1)) % n + n - 1 = (i + (d + 1)) % n + (n - 1) := by omega
        rw [h3, Nat.mod_add_mod, show i + (d + 1) + (n - 1) = i + d + n by omega, Nat.add_mod_right]
      rw [this, hc]
    · exact ih i h1 hc hi
theorem g_pred_mod (n f k : Nat) (hn : 0 < n) : ((f + (k + 1)) % n + n - 1) % n = (f + k) % n := by
  have h3 : (f + (k + 1)) % n + n - 1 = (f + (k + 1)) % n + (n - 1) := by omega
  rw [h3, Nat.mod_add_mod, show f + (k + 1) + (n - 1) = f + k + n by omega, Nat.add_mod_right]
theorem g_mod_inj {n f a b : Nat} (ha : a < n) (hb : b < n) (h : (f + a) % n = (f + b) % n) : a = b := by
  have h1 : ((f + a) % n + (n - f % n)) % n = a := by
    rw [Nat.mod_add_mod]
    have : f + a + (n - f % n) = a + n * (f / n) + n := by have := Nat.div_add_mod f n; have := Nat.mod_lt f (show 0 < n by omega); omega
    rw [this, Nat.add_mod_right, Nat.add_mul_mod_self_left, Nat.mod_eq_of_lt ha]
  have h2 : ((f + b) % n + (n - f % n)) % n = b := by
    rw [Nat.mod_add_mod]
    have : f + b + (n - f % n) = b + n * (f / n) + n := by have := Nat.div_add_mod f n; have := Nat.mod_lt f (show 0 < n by omega); omega
    rw [this, Nat.add_mod_right, Nat.add_mul_mod_self_left, Nat.mod_eq_of_lt hb]
  rw [← h1, ← h2, h]
/-- one rise alone: behind the run nothing is seen -/
theorem rest_off (s : Nat → Bool) (n f j : Nat) (hf : f < n) (hj : s ((f + j) % n) = false) (hu : ∀ r, r < n → s r = true → s ((r + n - 1) % n) = false → r = f) (hj0 : 0 < j) :
    ∀ k, j ≤ k → k < n → s ((f + k) % n) = false := by
  intro k
  induction k with
  | zero => intro h; omega
  | succ k ih =>
    intro h1 h2
    rcases Nat.lt_or_ge k j with h3 | h3
    · have : k + 1 = j := by omega
      rw [this]; exact hj
    · have h4 := ih h3 (by omega)
      rcases hc : s ((f + (k + 1)) % n) with _ | _
      · rfl
      · have h5 := hu _ (Nat.mod_lt _ (by omega)) hc (by rw [g_pred_mod n f k (by omega)]; exact h4)
        have := g_mod_inj (n := n) (f := f) (a := k + 1) (b := 0) h2 (by omega) (by rw [h5, Nat.add_zero, Nat.mod_eq_of_lt hf])
        omega
/-- the hull, as the builder keeps it -/
structure Hul (X Y : Nat → Int) (m : Nat) (h : List Nat) : Prop where
  len : 3 ≤ h.length
  nd : ∀ i j, i < h.length → j < h.length → gH h i = gH h j → i = j
  le : ∀ i, i < h.length → gH h i ≤ m
  edge : ∀ i, i < h.length → gE X Y m (gH h i) (gH h ((i + 1) % h.length))
  zero : ∃ i, i < h.length ∧ gH h i = 0
  last : ∃ i, i < h.length ∧ gH h i = m
theorem pred_lt {n i : Nat} (h : i < n) : (i + n - 1) % n < n := Nat.mod_lt _ (by omega)
theorem succ_pred {n i : Nat} (h : i < n) : ((i + n - 1) % n + 1) % n = i := by
  rw [Nat.mod_add_mod, show i + n - 1 + 1 = i + n by omega, Nat.add_mod_right, Nat.mod_eq_of_lt h]
theorem pred_ne {n i : Nat} (h : i < n) (h3 : 3 ≤ n) : (i + n - 1) % n ≠ i ∧ (i + 1) % n ≠ i ∧ (i + n - 1) % n ≠ (i + 1) % n := by
  rcases Nat.eq_zero_or_pos i with h0 | h0
  · subst h0
    rw [Nat.mod_eq_of_lt (by omega), Nat.mod_eq_of_lt (by omega)]; omega
  · rw [show i + n - 1 = (i - 1) + n by omega, Nat.add_mod_right, Nat.mod_eq_of_lt (by omega)]
    rcases Nat.lt_or_ge (i + 1) n with h1 | h1
    · rw [Nat.mod_eq_of_lt h1]; omega
    · rw [show i + 1 = n by omega, Nat.mod_self]; omega
section
variable {X Y : Nat → Int} {N m : Nat} {h : List Nat}
/-- what stands about one vertex -/
theorem Hul.at (H : Hul X Y m h) {i : Nat} (hi : i < h.length) : ∃ y x z, y = gH h ((i + h.length - 1) % h.length) ∧ x = gH h i ∧ z = gH h ((i + 1) % h.length) ∧ y ≤ m ∧ x ≤ m ∧ z ≤ m ∧ y ≠ x ∧ x ≠ z ∧ y ≠ z ∧ gE X Y m y x ∧ gE X Y m x z := by
  have h3 := H.len
  obtain ⟨p1, p2, p3⟩ := pred_ne hi h3
  have l1 := pred_lt hi
  have l2 : (i + 1) % h.length < h.length := Nat.mod_lt _ (by omega)
  refine ⟨_, _, _, rfl, rfl, rfl, H.le _ l1, H.le _ hi, H.le _ l2, fun e => p1 (H.nd _ _ l1 hi e), fun e => p2 (H.nd _ _ l2 hi e.symm), fun e => p3 (H.nd _ _ l1 l2 e), ?_, H.edge _ hi⟩
  have := H.edge _ l1
  rw [succ_pred hi] at this
  exact this
/-- is the way from place i on seen? -/
def gsn (X Y : Nat → Int) (h : List Nat) (p i : Nat) : Bool := decide (gT X Y (gH h i) (gH h ((i + 1) % h.length)) p < 0)
theorem Hul.sn_pred (_ : Hul X Y m h) {p i : Nat} (hi : i < h.length) : gsn X Y h p ((i + h.length - 1) % h.length) = decide (gT X Y (gH h ((i + h.length - 1) % h.length)) (gH h i) p < 0) := by
  unfold gsn; rw [succ_pred hi]
theorem Hul.rise (H : Hul X Y m h) (hX : gRis X N) {p : Nat} (hm : m < p) (hp : p < N) (h0 : 0 < m) : ∃ r, r < h.length ∧ gsn X Y h p r = true ∧ gsn X Y h p ((r + h.length - 1) % h.length) = false := by
  obtain ⟨iz, z1, z2⟩ := H.zero
  obtain ⟨il, l1, l2⟩ := H.last
  -- one that is not seen
  have a : ∃ i, i < h.length ∧ gsn X Y h p i = false := by
    obtain ⟨y, x, z, ey, ex, ez, ly, lx, lz, n1, n2, n3, e1, e2⟩ := H.at z1
    rw [z2] at ex; subst ex
    rcases hc : gsn X Y h p iz with _ | _
    · exact ⟨iz, z1, hc⟩
    · refine ⟨_, pred_lt z1, ?_⟩
      rw [H.sn_pred z1, ← ey, z2]
      unfold gsn at hc
      rw [← ez, z2] at hc
      have := zero_not hX hm hp (by omega) (by omega) ly lz e1
      simp at hc ⊢
      omega
  have b : ∃ i, i < h.length ∧ gsn X Y h p i = true := by
    obtain ⟨y, x, z, ey, ex, ez, ly, lx, lz, n1, n2, n3, e1, e2⟩ := H.at l1
    rw [l2] at ex; subst ex
    rcases hc : gsn X Y h p il with _ | _
    · refine ⟨_, pred_lt l1, ?_⟩
      rw [H.sn_pred l1, ← ey, l2]
      unfold gsn at hc
      rw [← ez, l2] at hc
      have := last_sees hX hm hp (by omega) (by omega) n3 e1 e2
      simp at hc ⊢
      omega
    · exact ⟨il, l1, hc⟩
  obtain ⟨i, i1, i2⟩ := a
  obtain ⟨k, k1, k2⟩ := b
  refine rise_ex (gsn X Y h p) h.length (k + h.length - i) i i2 ?_ i1
  rw [show i + (k + h.length - i) = k + h.length by omega, Nat.add_mod_right, Nat.mod_eq_of_lt k1]
  exact k2
theorem Hul.rise_l (H : Hul X Y m h) (hX : gRis X N) {p : Nat} (hm : m < p) (hp : p < N) {r : Nat} (hr : r < h.length) (h1 : gsn X Y h p r = true) (h2 : gsn X Y h p ((r + h.length - 1) % h.length) = false) (k : Nat) (hk : k ≤ m) :
    0 ≤ gT X Y (gH h r) p k ∧ (gT X Y (gH h r) p k = 0 → ¬ (gH h r < k ∧ k < p)) := by
  obtain ⟨y, x, z, ey, ex, ez, ly, lx, lz, n1, n2, n3, e1, e2⟩ := H.at hr
  rw [H.sn_pred hr, ← ey, ← ex] at h2
  unfold gsn at h1
  rw [← ez, ← ex] at h1
  rw [← ex]
  simp at h1 h2
  exact g_cone_l hX hm hp ly lx lz n1 n2 n3 e1 e2 h2 h1 k hk
theorem Hul.rise_u (H : Hul X Y m h) (hX : gRis X N) {p : Nat} (hm : m < p) (hp : p < N) {r : Nat} (hr : r < h.length) (h1 : gsn X Y h p r = false) (h2 : gsn X Y h p ((r + h.length - 1) % h.length) = true) (k : Nat) (hk : k ≤ m) :
    0 ≤ gT X Y p (gH h r) k ∧ (gT X Y p (gH h r) k = 0 → ¬ (gH h r < k ∧ k < p)) := by
  obtain ⟨y, x, z, ey, ex, ez, ly, lx, lz, n1, n2, n3, e1, e2⟩ := H.at hr
  rw [H.sn_pred hr, ← ey, ← ex] at h2
  unfold gsn at h1
  rw [← ez, ← ex] at h1
  rw [← ex]
  simp at h1 h2
  exact g_cone_u hX hm hp ly lx lz n1 n2 n3 e1 e2 h2 h1 k hk
theorem Hul.rise_one (H : Hul X Y m h) (hX : gRis X N) {p : Nat} (hm : m < p) (hp : p < N) {r f : Nat} (hr : r < h.length) (h1 : gsn X Y h p r = true) (h2 : gsn X Y h p ((r + h.length - 1) % h.length) = false)
    (hf : f < h.length) (g1 : gsn X Y h p f = true) (g2 : gsn X Y h p ((f + h.length - 1) % h.length) = false) : r = f := by
  have a := H.rise_l hX hm hp hr h1 h2 _ (H.le f hf)
  have b := H.rise_l hX hm hp hf g1 g2 _ (H.le r hr)
  have e : gT X Y (gH h f) p (gH h r) = -gT X Y (gH h r) p (gH h f) := by unfold gT; grind
  have l1 := H.le f hf
  have l2 := H.le r hr
  refine H.nd _ _ hr hf ?_
  have a2 := a.2 (by omega)
  have b2 := b.2 (by omega)
  omega
end
section
variable {X Y : Nat → Int} {N m : Nat} {h : List Nat}
theorem takeWhile_run (s : Nat → Bool) (n : Nat) : (∀ k, k < ((List.range n).takeWhile s).length → s k = true) ∧ ((List.range n).takeWhile s).length ≤ n ∧ (((List.range n).takeWhile s).length < n → s ((List.range n).takeWhile s).length = false) := by
  have hp : ((List.range n).takeWhile s) <+: List.range n := List.takeWhile_prefix s
  have hl : ((List.range n).takeWhile s).length ≤ n := by have := hp.length_le; simpa using this
  have hg : ∀ k, (hk : k < ((List.range n).takeWhile s).length) → ((List.range n).takeWhile s)[k] = k := fun k hk => by
    have := hp.getElem hk
    rw [this, List.getElem_range]
  refine ⟨fun k hk => ?_, hl, fun hlt => ?_⟩
  · have := List.all_eq_true.1 (List.all_takeWhile (p := s) (l := List.range n)) _ (List.getElem_mem hk)
    rw [hg k hk] at this; exact this
  · have h1 := List.takeWhile_append_dropWhile (p := s) (l := List.range n)
    rcases hd : (List.range n).dropWhile s with _ | ⟨x, l⟩
    · rw [hd, List.append_nil] at h1; rw [h1] at hlt; simp at hlt
    · have hx : s x = false := by
        have := List.head_dropWhile_not s (l := List.range n) (by rw [hd]; simp)
        simpa [hd] using this
      have h2 : ((List.range n).takeWhile s ++ x :: l)[((List.range n).takeWhile s).length]? = some x := by
        rw [List.getElem?_append_right (Nat.le_refl _), Nat.sub_self]; rfl
      rw [hd] at h1
      rw [h1, List.getElem?_range hlt] at h2
      injection h2 with h2
      rw [h2]; exact hx
/-- the builder's search finds the one rise and runs over all that is seen -/
theorem Hul.addok (H : Hul X Y m h) (hX : gRis X N) {p : Nat} (hm : m < p) (hp : p < N) (h0 : 0 < m) {X0 Y0 : Nat → Int} (hs : ∀ i, i < h.length → sE X0 Y0 h p i = gsn X Y h p i) :
    AddOk X0 Y0 h p (firstI X0 Y0 h p) (runJ X0 Y0 h p (firstI X0 Y0 h p)) ∧ ∀ k, runJ X0 Y0 h p (firstI X0 Y0 h p) ≤ k → k < h.length → gsn X Y h p ((firstI X0 Y0 h p + k) % h.length) = false := by
  have h3 := H.len
  obtain ⟨r, r1, r2, r3⟩ := H.rise hX hm hp h0
  have hone := fun (r' : Nat) (a : r' < h.length) b c => H.rise_one hX hm hp a b c r1 r2 r3
  have hf : (List.range h.length).find? (fun i => sE X0 Y0 h p i && !sE X0 Y0 h p ((i + h.length - 1) % h.length)) = some r := by
    rcases hc : (List.range h.length).find? (fun i => sE X0 Y0 h p i && !sE X0 Y0 h p ((i + h.length - 1) % h.length)) with _ | x
    · rw [List.find?_eq_none] at hc
      have := hc r (List.mem_range.2 r1)
      rw [hs r r1, hs _ (pred_lt r1), r2, r3] at this
      simp at this
    · have h1 := List.find?_some hc
      have h2 := List.mem_range.1 (List.mem_of_find?_eq_some hc)
      rw [hs x h2, hs _ (pred_lt h2)] at h1
      simp at h1
      rw [hone x h2 h1.1 h1.2]
  have ef : firstI X0 Y0 h p = r := by unfold firstI; rw [hf]; rfl
  rw [ef]
  obtain ⟨t1, t2, t3⟩ := takeWhile_run (fun k => sE X0 Y0 h p ((r + k) % h.length)) h.length
  have ml : ∀ k, (r + k) % h.length < h.length := fun k => Nat.mod_lt _ (by omega)
  have j0 : 0 < runJ X0 Y0 h p r := by
    rcases Nat.eq_zero_or_pos (runJ X0 Y0 h p r) with e | e
    · have := t3 (by unfold runJ at e; omega)
      unfold runJ at e
      rw [e, hs _ (ml _), Nat.add_zero, Nat.mod_eq_of_lt r1, r2] at this
      cases this
    · exact e
  have j1 : runJ X0 Y0 h p r < h.length := by
    rcases Nat.lt_or_ge (runJ X0 Y0 h p r) h.length with e | e
    · exact e
    · have := t1 (h.length - 1) (by unfold runJ at e; omega)
      rw [hs _ (ml _), show r + (h.length - 1) = r + h.length - 1 by omega, r3] at this
      cases this
  have fin := t3 j1
  rw [hs _ (ml _)] at fin
  refine ⟨⟨r1, j0, j1, fun i hi hsi => ?_, by rw [hs _ (pred_lt r1)]; exact r3, t1, t3 j1⟩, fun k => ?_⟩
  · rw [hs _ (pred_lt (by omega))]
    rw [hs _ (by omega)] at hsi
    rcases hc : gsn X Y h p ((i + h.length - 1) % h.length) with _ | _
    · have := hone i (by omega) hsi hc; omega
    · rfl
  · exact rest_off _ _ _ _ r1 fin hone j0 k
theorem addH_len (p f j : Nat) : (addH h p f j).length = h.length - j + 2 := by unfold addH; simp
theorem addH_0 (p f j : Nat) : gH (addH h p f j) 0 = gH h f := rfl
theorem addH_1 (p f j : Nat) : gH (addH h p f j) 1 = p := rfl
theorem addH_2 (p f j c : Nat) (hc : c < h.length - j) : gH (addH h p f j) (c + 2) = gH h ((f + j + c) % h.length) := by
  show ((List.range (h.length - j)).map fun k => gH h ((f + j + k) % h.length)).getD c 0 = _
  rw [List.getD_eq_getElem?_getD, List.getElem?_map, List.getElem?_range hc]; rfl
/-- the hull behind one more point -/
theorem Hul.next (H : Hul X Y m h) (hX : gRis X N) (hp : m + 1 < N) (_ : 0 < m) {f j : Nat} (hf : f < h.length) (hj0 : 0 < j) (hj1 : j < h.length) (hr : gsn X Y h (m + 1) ((f + h.length - 1) % h.length) = false)
    (run : ∀ k, k < j → gsn X Y h (m + 1) ((f + k) % h.length) = true) (off : ∀ k, j ≤ k → k < h.length → gsn X Y h (m + 1) ((f + k) % h.length) = false) : Hul X Y (m + 1) (addH h (m + 1) f j) := by
 have h3 := H.len
 have ml : ∀ k, k % h.length < h.length := fun k => Nat.mod_lt _ (by omega)
 have run0 : gsn X Y h (m + 1) f = true := by have := run 0 hj0; rw [show (f + 0) % h.length = f from Nat.mod_eq_of_lt hf] at this; exact this
 have hl := addH_len (h := h) (m + 1) f j
 -- the places of the new hull
 have pl : ∀ i, i < (addH h (m + 1) f j).length → (i = 0 ∧ gH (addH h (m + 1) f j) i = gH h f) ∨ (i = 1 ∧ gH (addH h (m + 1) f j) i = m + 1) ∨ ∃ c, c < h.length - j ∧ i = c + 2 ∧ gH (addH h (m + 1) f j) i = gH h ((f + j + c) % h.length) := by
  intro i hi
  match i, hi with
  | 0, _ => exact .inl ⟨rfl, rfl⟩
  | 1, _ => exact .inr (.inl ⟨rfl, rfl⟩)
  | c + 2, hi => exact .inr (.inr ⟨c, by omega, rfl, addH_2 _ _ _ _ (by omega)⟩)
 have lo := H.rise_l hX (Nat.lt_succ_self m) hp hf run0 hr
 have fj : ((f + j) % h.length + h.length - 1) % h.length = (f + (j - 1)) % h.length := by
  have := g_pred_mod h.length f (j - 1) (by omega)
  rwa [show j - 1 + 1 = j by omega] at this
 have up := H.rise_u hX (Nat.lt_succ_self m) hp (ml (f + j)) (off j (Nat.le_refl _) hj1) (by rw [fj]; exact run (j - 1) (by omega))
 refine ⟨by omega, ?_, ?_, ?_, ?_, ⟨1, by omega, rfl⟩⟩
 ·intro i k hi hk he
  have new : ∀ i, i < h.length → gH h i ≠ m + 1 := fun i hi => by have := H.le i hi; omega
  rcases pl i hi with ⟨a, b⟩ | ⟨a, b⟩ | ⟨c, c1, a, b⟩ <;> rcases pl k hk with ⟨a', b'⟩ | ⟨a', b'⟩ | ⟨c', c1', a', b'⟩ <;> rw [b, b'] at he
  ·omega
  ·exact absurd he (new _ hf)
  ·have := H.nd _ _ hf (ml _) he
   have := g_mod_inj (n := h.length) (f := f) (a := 0) (b := j + c') (by omega) (by omega) (by rw [Nat.add_zero, Nat.mod_eq_of_lt hf, ← Nat.add_assoc]; exact this)
   omega
  ·exact absurd he.symm (new _ hf)
  ·omega
  ·exact absurd he.symm (new _ (ml _))
  ·have := H.nd _ _ (ml _) hf he
   have := g_mod_inj (n := h.length) (f := f) (a := j + c) (b := 0) (by omega) (by omega) (by rw [Nat.add_zero, Nat.mod_eq_of_lt hf, ← Nat.add_assoc]; exact this)
   omega
  ·exact absurd he (new _ (ml _))
  ·have := H.nd _ _ (ml _) (ml _) he
   have := g_mod_inj (n := h.length) (f := f) (a := j + c) (b := j + c') (by omega) (by omega) (by rw [← Nat.add_assoc, ← Nat.add_assoc]; exact this)
   omega
 ·intro i hi
  rcases pl i hi with ⟨a, b⟩ | ⟨a, b⟩ | ⟨c, c1, a, b⟩ <;> rw [b]
  ·have := H.le f hf; omega
  ·omega
  ·have := H.le _ (ml (f + j + c)); omega
 ·intro i hi
  rcases pl i hi with ⟨a, b⟩ | ⟨a, b⟩ | ⟨c, c1, a, b⟩ <;> rw [b]
  ·subst a
   rw [show (0 + 1) % (addH h (m + 1) f j).length = 1 from Nat.mod_eq_of_lt (by omega), addH_1]
   intro k hk
   rcases Nat.lt_or_ge m k with h4 | h4
   ·rw [show k = m + 1 by omega, gT_end2]; omega
   ·have a1 := lo k h4
    have a2 := H.le f hf
    exact ⟨a1.1, fun e => ⟨fun q => a1.2 e ⟨q.1, q.2⟩, fun q => by omega⟩⟩
  ·subst a
   rw [show (1 + 1) % (addH h (m + 1) f j).length = 0 + 2 from Nat.mod_eq_of_lt (by omega), addH_2 _ _ _ _ (by omega), Nat.add_zero]
   intro k hk
   rcases Nat.lt_or_ge m k with h4 | h4
   ·rw [show k = m + 1 by omega, gT_end1]; omega
   ·have a1 := up k h4
    have a2 := H.le _ (ml (f + j))
    exact ⟨a1.1, fun e => ⟨fun q => by omega, fun q => a1.2 e ⟨q.1, q.2⟩⟩⟩
  ·have hnx : gH (addH h (m + 1) f j) ((i + 1) % (addH h (m + 1) f j).length) = gH h (((f + j + c) % h.length + 1) % h.length) := by
    rw [Nat.mod_add_mod, a]
    rcases Nat.lt_or_ge (c + 1) (h.length - j) with h4 | h4
    ·rw [Nat.mod_eq_of_lt (by omega), show c + 2 + 1 = (c + 1) + 2 by omega, addH_2 _ _ _ _ h4]; rfl
    ·rw [show c + 2 + 1 = (addH h (m + 1) f j).length by omega, Nat.mod_self, addH_0, show f + j + c + 1 = f + h.length by omega, Nat.add_mod_right, Nat.mod_eq_of_lt hf]
   rw [hnx]
   have e := H.edge _ (ml (f + j + c))
   have o := off (j + c) (by omega) (by omega)
   rw [← Nat.add_assoc] at o
   unfold gsn at o
   simp only [decide_eq_false_iff_not] at o
   have l1 := H.le _ (ml (f + j + c))
   have l2 := H.le _ (ml ((f + j + c) % h.length + 1))
   intro k hk
   rcases Nat.lt_or_ge m k with h4 | h4
   ·rw [show k = m + 1 by omega]; omega
   ·exact e k h4
 ·-- the first point stays
  obtain ⟨iz, z1, z2⟩ := H.zero
  have hd : ∃ d, d < h.length ∧ (f + d) % h.length = iz := by
   refine ⟨(iz + h.length - f) % h.length, ml _, ?_⟩
   rw [Nat.add_mod_mod, show f + (iz + h.length - f) = iz + h.length by omega, Nat.add_mod_right, Nat.mod_eq_of_lt z1]
  obtain ⟨d, d1, d2⟩ := hd
  rcases Nat.eq_zero_or_pos d with d0 | d0
  ·subst d0
   rw [Nat.add_zero, Nat.mod_eq_of_lt hf] at d2
   exact ⟨0, by omega, by rw [addH_0, d2]; exact z2⟩
  ·rcases Nat.lt_or_ge d j with h4 | h4
   ·exfalso
    obtain ⟨y, x, z, ey, ex, ez, ly, lx, lz, n1, n2, n3, e1, e2⟩ := H.at z1
    rw [z2] at ex; subst ex
    have s1 := run d h4
    have s2 := run (d - 1) (by omega)
    have := g_pred_mod h.length f (d - 1) (by omega)
    rw [show d - 1 + 1 = d by omega, d2] at this
    rw [← this, H.sn_pred z1, ← ey, z2] at s2
    rw [d2] at s1
    unfold gsn at s1
    rw [← ez, z2] at s1
    simp at s1 s2
    exact zero_not hX (Nat.lt_succ_self m) hp (by omega) (by omega) ly lz e1 ⟨s2, s1⟩
   ·refine ⟨d - j + 2, by omega, ?_⟩
    rw [addH_2 _ _ _ _ (by omega), show f + j + (d - j) = f + d by omega, d2]; exact z2
end
def gsd (t : Tri3) (a b : Nat) : Prop := (a = t.1 ∧ b = t.2.1) ∨ (a = t.2.1 ∧ b = t.2.2) ∨ (a = t.2.2 ∧ b = t.1)
def gSd (l : List Tri3) (a b : Nat) : Prop := ∃ t, t ∈ l ∧ gsd t a b
def okT (N : Nat) (S : Nat → Nat → Prop) (t : Tri3) : Prop := t.1 < N ∧ t.2.1 < N ∧ t.2.2 < N ∧ t.1 ≠ t.2.1 ∧ t.2.1 ≠ t.2.2 ∧ t.1 ≠ t.2.2 ∧ ¬ S t.1 t.2.1 ∧ ¬ S t.2.1 t.2.2 ∧ ¬ S t.2.2 t.1
def Fresh (N : Nat) : (Nat → Nat → Prop) → List Tri3 → Prop
  | _, [] => True
  | S, t :: l => okT N S t ∧ Fresh N (fun a b => S a b ∨ gsd t a b) l
theorem fresh_of (N : Nat) : ∀ (l : List Tri3) (S : Nat → Nat → Prop), (∀ (k : Nat) (t : Tri3), l[k]? = some t → okT N S t) →
    (∀ (k k' : Nat) (t t' : Tri3), k < k' → l[k]? = some t → l[k']? = some t' → ¬ gsd t t'.1 t'.2.1 ∧ ¬ gsd t t'.2.1 t'.2.2 ∧ ¬ gsd t t'.2.2 t'.1) → Fresh N S l := by
  intro l
  induction l with
  | nil => intro S _ _; trivial
  | cons t l ih =>
    intro S h1 h2
    refine ⟨h1 0 t rfl, ih _ (fun k u hu => ?_) (fun k k' u u' hk hu hu' => h2 (k + 1) (k' + 1) u u' (by omega) hu hu')⟩
    have a := h1 (k + 1) u hu
    have b := h2 0 (k + 1) t u (by omega) rfl hu
    obtain ⟨a1, a2, a3, a4, a5, a6, a7, a8, a9⟩ := a
    exact ⟨a1, a2, a3, a4, a5, a6, fun c => c.elim a7 b.1, fun c => c.elim a8 b.2.1, fun c => c.elim a9 b.2.2⟩
theorem fresh_cong (N : Nat) : ∀ (l : List Tri3) (S S' : Nat → Nat → Prop), (∀ a b, S a b ↔ S' a b) → (Fresh N S l ↔ Fresh N S' l) := by
  intro l S S' h
  have : S = S' := funext fun a => funext fun b => propext (h a b)
  rw [this]
theorem fresh_app (N : Nat) : ∀ (l m : List Tri3) (S : Nat → Nat → Prop), Fresh N S (l ++ m) ↔ Fresh N S l ∧ Fresh N (fun a b => S a b ∨ gSd l a b) m := by
  intro l
  induction l with
  | nil =>
    intro m S
    constructor
    · intro h; exact ⟨trivial, (fresh_cong N m _ _ (fun a b => ⟨.inl, fun c => c.elim id (fun ⟨t, ht, _⟩ => by cases ht)⟩)).1 h⟩
    · intro h; exact (fresh_cong N m _ _ (fun a b => ⟨.inl, fun c => c.elim id (fun ⟨t, ht, _⟩ => by cases ht)⟩)).2 h.2
  | cons t l ih =>
    intro m S
    show (_ ∧ Fresh N _ (l ++ m)) ↔ (_ ∧ Fresh N _ l) ∧ _
    rw [ih, and_assoc]
    refine and_congr Iff.rfl (and_congr Iff.rfl (fresh_cong N m _ _ fun a b => ?_))
    constructor
    · rintro ((c | c) | ⟨u, hu, c⟩)
      · exact .inl c
      · exact .inr ⟨t, List.mem_cons_self .., c⟩
      · exact .inr ⟨u, List.mem_cons_of_mem _ hu, c⟩
    · rintro (c | ⟨u, hu, c⟩)
      · exact .inl (.inl c)
      · rcases List.mem_cons.1 hu with rfl | hu
        · exact .inl (.inr c)
        · exact .inr ⟨u, hu, c⟩
/-- what stands between the hull and the triangles put -/
structure Bnd (m : Nat) (h : List Nat) (l : List Tri3) : Prop where
  dom : ∀ a b, gSd l a b → a ≤ m ∧ b ≤ m
  new : ∀ i, i < h.length → ¬ gSd l (gH h ((i + 1) % h.length)) (gH h i)
  cnt : l.length + h.length ≤ 2 * (m + 1)
  hln : h.length ≤ m + 1
section
variable {X Y : Nat → Int} {N m : Nat} {h : List Nat}
theorem addT_get (p f j k : Nat) (t : Tri3) (ht : (addT h p f j)[k]? = some t) : k < j ∧ t = (gH h ((f + k) % h.length), p, gH h ((f + (k + 1)) % h.length)) := by
  unfold addT at ht
  rw [List.getElem?_map] at ht
  rcases Nat.lt_or_ge k j with hk | hk
  · rw [List.getElem?_range hk] at ht
    refine ⟨hk, ?_⟩
    injection ht with ht
    rw [← ht]
    show (gH h _, p, gH h (((f + k) % h.length + 1) % h.length)) = _
    rw [Nat.mod_add_mod]; rfl
  · rw [List.getElem?_eq_none (by simpa using hk)] at ht; cases ht
theorem addT_mem (p f j : Nat) (t : Tri3) (ht : t ∈ addT h p f j) : ∃ k, k < j ∧ t = (gH h ((f + k) % h.length), p, gH h ((f + (k + 1)) % h.length)) := by
  obtain ⟨k, hk⟩ := List.mem_iff_getElem?.1 ht
  obtain ⟨a, b⟩ := addT_get p f j k t hk
  exact ⟨k, a, b⟩
theorem Hul.inj (H : Hul X Y m h) {f a b : Nat} (ha : a < h.length) (hb : b < h.length) (he : gH h ((f + a) % h.length) = gH h ((f + b) % h.length)) : a = b := by
  have h3 := H.len
  exact g_mod_inj ha hb (H.nd _ _ (Nat.mod_lt _ (by omega)) (Nat.mod_lt _ (by omega)) he)
theorem Hul.putok (H : Hul X Y m h) {l : List Tri3} (B : Bnd m h l) (hp : m + 1 < N) {f j : Nat} (hj1 : j < h.length) : Fresh N (gSd l) (addT h (m + 1) f j) := by
  have h3 := H.len
  have ml : ∀ k, k % h.length < h.length := fun k => Nat.mod_lt _ (by omega)
  have le := fun k => H.le _ (ml k)
  refine fresh_of N _ _ (fun k t ht => ?_) (fun k k' t t' hk ht ht' => ?_)
  · obtain ⟨hk, rfl⟩ := addT_get _ _ _ _ _ ht
    have l1 := le (f + k)
    have l2 := le (f + (k + 1))
    refine ⟨by show gH h _ < N; omega, hp, by show gH h _ < N; omega, ?_, ?_, fun e => ?_, fun e => ?_, fun e => ?_, fun e => ?_⟩
    · show gH h _ ≠ m + 1; omega
    · show m + 1 ≠ gH h _; omega
    · have := H.inj (f := f) (by omega) (by omega) e; omega
    · have := (B.dom _ _ e).2
      have : m + 1 ≤ m := this
      omega
    · have := (B.dom _ _ e).1
      have : m + 1 ≤ m := this
      omega
    · refine B.new ((f + k) % h.length) (ml _) ?_
      rw [Nat.mod_add_mod]; exact e
  · obtain ⟨hk1, rfl⟩ := addT_get _ _ _ _ _ ht
    obtain ⟨hk2, rfl⟩ := addT_get _ _ _ _ _ ht'
    have l1 := le (f + k)
    have l2 := le (f + (k + 1))
    have l3 := le (f + k')
    have l4 := le (f + (k' + 1))
    refine ⟨?_, ?_, ?_⟩ <;> rintro (⟨e1, e2⟩ | ⟨e1, e2⟩ | ⟨e1, e2⟩) <;> simp only [] at e1 e2
    all_goals first
      | omega
      | (have := H.inj (f := f) (by omega) (by omega) e1; omega)
      | (have := H.inj (f := f) (by omega) (by omega) e2; omega)
theorem Sd_app {l l' : List Tri3} {a b : Nat} (h : gSd (l ++ l') a b) : gSd l a b ∨ gSd l' a b := by
  obtain ⟨t, ht, hs⟩ := h
  rcases List.mem_append.1 ht with h1 | h1
  · exact .inl ⟨t, h1, hs⟩
  · exact .inr ⟨t, h1, hs⟩
theorem Hul.bnd (H : Hul X Y m h) {l : List Tri3} (B : Bnd m h l) {f j : Nat} (hf : f < h.length) (hj0 : 0 < j) (hj1 : j < h.length) : Bnd (m + 1) (addH h (m + 1) f j) (l ++ addT h (m + 1) f j) := by
 have h3 := H.len
 have ml : ∀ k, k % h.length < h.length := fun k => Nat.mod_lt _ (by omega)
 have le := fun k => H.le _ (ml k)
 have hl := addH_len (h := h) (m + 1) f j
 have tl : (addT h (m + 1) f j).length = j := by unfold addT; simp
 have f0 : gH h f = gH h ((f + 0) % h.length) := by rw [show (f + 0) % h.length = f from Nat.mod_eq_of_lt hf]
 refine ⟨fun a b s => ?_, fun i hi s => ?_, ?_, ?_⟩
 ·rcases Sd_app s with s | ⟨t, ht, s⟩
  ·have := B.dom a b s; omega
  ·obtain ⟨k, hk, rfl⟩ := addT_mem _ _ _ _ ht
   have l1 := le (f + k)
   have l2 := le (f + (k + 1))
   rcases s with ⟨e1, e2⟩ | ⟨e1, e2⟩ | ⟨e1, e2⟩ <;> simp only [] at e1 e2 <;> omega
 ·match i, hi with
  | 0, _ =>
   rw [show (0 + 1) % (addH h (m + 1) f j).length = 1 from Nat.mod_eq_of_lt (by omega), addH_1, addH_0] at s
   rcases Sd_app s with s | ⟨t, ht, s⟩
   ·have := B.dom _ _ s; omega
   ·obtain ⟨k, hk, rfl⟩ := addT_mem _ _ _ _ ht
    have l1 := le (f + k)
    have l2 := le (f + (k + 1))
    rcases s with ⟨e1, e2⟩ | ⟨e1, e2⟩ | ⟨e1, e2⟩ <;> simp only [] at e1 e2
    ·omega
    ·rw [f0] at e2
     have := H.inj (f := f) (by omega) (by omega) e2; omega
    ·omega
  | 1, _ =>
   rw [show (1 + 1) % (addH h (m + 1) f j).length = 0 + 2 from Nat.mod_eq_of_lt (by omega), addH_2 _ _ _ _ (by omega), addH_1, Nat.add_zero] at s
   rcases Sd_app s with s | ⟨t, ht, s⟩
   ·have := B.dom _ _ s; omega
   ·obtain ⟨k, hk, rfl⟩ := addT_mem _ _ _ _ ht
    have l1 := le (f + k)
    have l2 := le (f + (k + 1))
    rcases s with ⟨e1, e2⟩ | ⟨e1, e2⟩ | ⟨e1, e2⟩ <;> simp only [] at e1 e2
    ·have := H.inj (f := f) (by omega) (by omega) e1; omega
    ·omega
    ·omega
  | c + 2, hi =>
   have hc : c < h.length - j := by omega
   have hnx : gH (addH h (m + 1) f j) ((c + 2 + 1) % (addH h (m + 1) f j).length) = gH h ((f + (j + c + 1)) % h.length) := by
    rcases Nat.lt_or_ge (c + 1) (h.length - j) with h4 | h4
    ·rw [Nat.mod_eq_of_lt (by omega), show c + 2 + 1 = (c + 1) + 2 by omega, addH_2 _ _ _ _ h4, show f + j + (c + 1) = f + (j + c + 1) by omega]
    ·rw [show c + 2 + 1 = (addH h (m + 1) f j).length by omega, Nat.mod_self, addH_0, show f + (j + c + 1) = f + h.length by omega, Nat.add_mod_right, Nat.mod_eq_of_lt hf]
   rw [hnx, addH_2 _ _ _ _ hc, show f + j + c = f + (j + c) from Nat.add_assoc f j c] at s
   have l3 := le (f + (j + c))
   have l4 := le (f + (j + c + 1))
   rcases Sd_app s with s | ⟨t, ht, s⟩
   ·refine B.new ((f + (j + c)) % h.length) (ml _) ?_
    rw [Nat.mod_add_mod]; exact s
   ·obtain ⟨k, hk, rfl⟩ := addT_mem _ _ _ _ ht
    have l1 := le (f + k)
    have l2 := le (f + (k + 1))
    rcases s with ⟨e1, e2⟩ | ⟨e1, e2⟩ | ⟨e1, e2⟩ <;> simp only [] at e1 e2
    ·omega
    ·omega
    ·have := H.inj (f := f) (by omega) (by omega) e2; omega
 ·rw [List.length_append, tl, hl]; have := B.cnt; omega
 ·rw [hl]; have := B.hln; omega
end
section
variable {X Y : Nat → Int} {N : Nat}
theorem gT_line (a q i j k : Nat) : gT X Y i j k * (X q - X a) = (X j - X i) * (gT X Y a q k - gT X Y a q i) - (X k - X i) * (gT X Y a q j - gT X Y a q i) := by unfold gT; grind
/-- the first points lie on one line -/
def gLn (X Y : Nat → Int) (q : Nat) : Prop := ∀ i, i < q → gT X Y 0 1 i = 0
theorem ln_in {q i j k : Nat} (hX : gRis X N) (h1 : 1 < N) (hl : gLn X Y q) (hi : i < q) (hj : j < q) (hk : k < q) : gT X Y i j k = 0 := by
  have e := gT_line (X := X) (Y := Y) 0 1 i j k
  rw [hl i hi, hl j hj, hl k hk] at e
  have := hX 0 1 (by omega) h1
  have e2 : (X 1 - X 0) * gT X Y i j k = 0 := by rw [Int.mul_comm]; simpa using e
  exact g_zero_of (by omega) e2
theorem ln_out {q i j : Nat} (hX : gRis X N) (h1 : 1 < N) (hl : gLn X Y q) (hij : i < j) (hj : j < q) (hq : q < N) : (0 < gT X Y 0 1 q → 0 < gT X Y i j q) ∧ (gT X Y 0 1 q < 0 → gT X Y i j q < 0) := by
  have e := gT_line (X := X) (Y := Y) 0 1 i j q
  rw [hl i (by omega), hl j hj] at e
  have a1 := hX 0 1 (by omega) h1
  have a2 := hX i j hij (by omega)
  have e2 : (X 1 - X 0) * gT X Y i j q = (X j - X i) * gT X Y 0 1 q := by rw [Int.mul_comm]; simpa using e
  constructor
  · intro h
    have := g_mul_pos (show 0 < X j - X i by omega) h
    exact g_pos_of (show 0 < X 1 - X 0 by omega) (by omega)
  · intro h
    have := g_mul_pos (show 0 < X j - X i by omega) (show 0 < -gT X Y 0 1 q by omega)
    have : 0 < (X 1 - X 0) * -gT X Y i j q := by rw [Int.mul_neg] at this ⊢; omega
    have := g_pos_of (show 0 < X 1 - X 0 by omega) this
    omega
theorem gH_up (q i : Nat) : gH (List.range q ++ [q]) i = if i ≤ q then i else 0 := by
  unfold gH
  rw [List.getD_eq_getElem?_getD, ← List.range_succ]
  split
  · rw [List.getElem?_range (by omega)]; rfl
  · rw [List.getElem?_eq_none (by simp; omega)]; rfl
theorem gH_dn (q i : Nat) : gH ((List.range q).reverse ++ [q]) i = if i < q then q - 1 - i else if i = q then q else 0 := by
  unfold gH
  rw [List.getD_eq_getElem?_getD]
  split
  · rename_i h
    rw [List.getElem?_append_left (by simpa using h), List.getElem?_reverse (by simpa using h), List.length_range, List.getElem?_range (by omega)]; rfl
  · rename_i h
    rw [List.getElem?_append_right (by simp; omega), List.length_reverse, List.length_range]
    split
    · rename_i e; rw [e, Nat.sub_self]; rfl
    · rw [List.getElem?_eq_none (by simp; omega)]; rfl
/-- the first hull -/
theorem base_up {q : Nat} (hX : gRis X N) (h2 : 2 ≤ q) (hq : q < N) (hl : gLn X Y q) (hp : 0 < gT X Y 0 1 q) : Hul X Y q (List.range q ++ [q]) := by
  have len : (List.range q ++ [q]).length = q + 1 := by simp
  refine ⟨by omega, fun i j hi hj => ?_, fun i hi => ?_, fun i hi => ?_, ⟨0, by omega, by rw [gH_up, if_pos (by omega)]⟩, ⟨q, by omega, by rw [gH_up, if_pos (by omega)]⟩⟩
  · rw [gH_up, gH_up, if_pos (by omega), if_pos (by omega)]; exact id
  · rw [gH_up, if_pos (by omega)]; omega
  · rw [len] at hi ⊢
    rw [gH_up, if_pos (by omega), gH_up, if_pos (by have := Nat.mod_lt (i + 1) (show 0 < q + 1 by omega); omega)]
    intro k hk
    rcases Nat.lt_or_ge i q with h | h
    · rw [Nat.mod_eq_of_lt (by omega)]
      rcases Nat.lt_or_ge (i + 1) q with h4 | h4
      · rcases Nat.lt_or_ge k q with h3 | h3
        · rw [ln_in hX (by omega) hl h h4 h3]; omega
        · have : k = q := by omega
          subst this
          have := (ln_out hX (by omega) hl (show i < i + 1 by omega) h4 hq).1 hp
          omega
      · have e : i + 1 = q := by omega
        rw [e]
        rcases Nat.lt_trichotomy k i with h3 | h3 | h3
        · have := (ln_out (i := k) (j := i) hX (by omega) hl h3 h hq).1 hp
          rw [← gT_rot k i q] at this
          omega
        · subst h3; rw [gT_end1]; omega
        · have : k = q := by omega
          subst this; rw [gT_end2]; omega
    · have e : i = q := by omega
      subst e
      rw [Nat.mod_self]
      rcases Nat.eq_zero_or_pos k with h3 | h3
      · subst h3; rw [gT_end2]; omega
      · rcases Nat.lt_or_ge k i with h4 | h4
        · have := (ln_out (i := 0) (j := k) hX (by omega) hl h3 h4 hq).1 hp
          rw [← gT_rot, ← gT_rot] at this
          rw [gT_rot, gT_rot] at this
          have e3 : gT X Y i 0 k = gT X Y 0 k i := by rw [← gT_rot i 0 k]
          omega
        · have : k = i := by omega
          subst this; rw [gT_end1]; omega
  
theorem base_dn {q : Nat} (hX : gRis X N) (h2 : 2 ≤ q) (hq : q < N) (hl : gLn X Y q) (hp : gT X Y 0 1 q < 0) : Hul X Y q ((List.range q).reverse ++ [q]) := by
  have len : ((List.range q).reverse ++ [q]).length = q + 1 := by simp
  have g1 : ∀ i, i < q → gH ((List.range q).reverse ++ [q]) i = q - 1 - i := fun i h => by rw [gH_dn, if_pos h]
  have g2 : gH ((List.range q).reverse ++ [q]) q = q := by rw [gH_dn, if_neg (by omega), if_pos rfl]
  refine ⟨by omega, fun i j hi hj => ?_, fun i hi => ?_, fun i hi => ?_, ⟨q - 1, by omega, by rw [g1 _ (by omega)]; omega⟩, ⟨q, by omega, g2⟩⟩
  · rw [gH_dn, gH_dn]; intro h; split at h <;> split at h <;> (try split at h) <;> (try split at h) <;> omega
  · rw [gH_dn]; split <;> (try split) <;> omega
  · rw [len] at hi ⊢
    intro k hk
    rcases Nat.lt_or_ge i q with h | h
    · rw [Nat.mod_eq_of_lt (by omega), g1 i h]
      rcases Nat.lt_or_ge (i + 1) q with h4 | h4
      · rw [g1 _ h4]
        obtain ⟨b, hb⟩ : ∃ b, b = q - 1 - (i + 1) := ⟨_, rfl⟩
        rw [← hb, show q - 1 - i = b + 1 by omega]
        rcases Nat.lt_or_ge k q with h3 | h3
        · rw [ln_in hX (by omega) hl (by omega) (by omega) h3]; omega
        · have : k = q := by omega
          subst this
          have := (ln_out hX (by omega) hl (show b < b + 1 by omega) (by omega) hq).2 hp
          rw [gT_swap b (b + 1)]
          omega
      · have e : i + 1 = q := by omega
        rw [e, g2, show q - 1 - i = 0 by omega]
        rcases Nat.eq_zero_or_pos k with h3 | h3
        · subst h3; rw [gT_end1]; omega
        · rcases Nat.lt_or_ge k q with h5 | h5
          · have := (ln_out (i := 0) (j := k) hX (by omega) hl h3 h5 hq).2 hp
            have e3 : gT X Y 0 q k = -gT X Y 0 k q := by unfold gT; grind
            omega
          · have : k = q := by omega
            subst this; rw [gT_end2]; omega
    · have e : i = q := by omega
      subst e
      rw [Nat.mod_self, g2, g1 0 (by omega), Nat.sub_zero]
      rcases Nat.lt_trichotomy k (i - 1) with h3 | h3 | h3
      · have := (ln_out (i := k) (j := i - 1) hX (by omega) hl h3 (by omega) hq).2 hp
        have e3 : gT X Y i (i - 1) k = -gT X Y k (i - 1) i := by unfold gT; grind
        omega
      · subst h3; rw [gT_end2]; omega
      · have : k = i := by omega
        subst this; rw [gT_end1]; omega
theorem begT_get (b : List Nat) (q k : Nat) (t : Tri3) (ht : (begT b q)[k]? = some t) : k < q - 1 ∧ t = (gH b k, gH b (k + 1), q) := by
  unfold begT at ht
  rw [List.getElem?_map] at ht
  rcases Nat.lt_or_ge k (q - 1) with hk | hk
  · rw [List.getElem?_range hk] at ht
    injection ht with ht
    exact ⟨hk, ht.symm⟩
  · rw [List.getElem?_eq_none (by simpa using hk)] at ht; cases ht
theorem gH_app (b : List Nat) (q i : Nat) (h : i < b.length) : gH (b ++ [q]) i = gH b i := by
  unfold gH
  rw [List.getD_eq_getElem?_getD, List.getD_eq_getElem?_getD, List.getElem?_append_left h]
theorem gH_app2 (b : List Nat) (q : Nat) : gH (b ++ [q]) b.length = q := by
  unfold gH
  rw [List.getD_eq_getElem?_getD, List.getElem?_append_right (Nat.le_refl _), Nat.sub_self]; rfl
/-- the first triangles, of any first hull -/
theorem beg_fresh {b : List Nat} {q : Nat} (h2 : 2 ≤ q) (hq : q < N) (hb : b.length = q) (hi : ∀ i j, i < q → j < q → gH b i = gH b j → i = j) (hl : ∀ i, i < q → gH b i < q) :
    Fresh N (fun _ _ => False) (begT b q) ∧ Bnd q (b ++ [q]) (begT b q) := by
 constructor
 ·refine fresh_of N _ _ (fun k t ht => ?_) (fun k k' t t' hk ht ht' => ?_)
  ·obtain ⟨hk, rfl⟩ := begT_get _ _ _ _ ht
   have l1 := hl k (by omega)
   have l2 := hl (k + 1) (by omega)
   refine ⟨by show gH b _ < N; omega, by show gH b _ < N; omega, hq, fun e => ?_, ?_, ?_, id, id, id⟩
   ·have := hi _ _ (by omega) (by omega) e; omega
   ·show gH b _ ≠ q; omega
   ·show gH b _ ≠ q; omega
  ·obtain ⟨hk1, rfl⟩ := begT_get _ _ _ _ ht
   obtain ⟨hk2, rfl⟩ := begT_get _ _ _ _ ht'
   have l1 := hl k (by omega)
   have l2 := hl (k + 1) (by omega)
   have l3 := hl k' (by omega)
   have l4 := hl (k' + 1) (by omega)
   refine ⟨?_, ?_, ?_⟩ <;> rintro (⟨e1, e2⟩ | ⟨e1, e2⟩ | ⟨e1, e2⟩) <;> simp only [] at e1 e2
   all_goals first
    | omega
    | (have := hi _ _ (by omega) (by omega) e1; omega)
    | (have := hi _ _ (by omega) (by omega) e2; omega)
 ·have tl : (begT b q).length = q - 1 := by unfold begT; simp
  have ll : (b ++ [q]).length = q + 1 := by simp [hb]
  refine ⟨fun x y ⟨t, ht, s⟩ => ?_, fun i hi' s => ?_, by rw [tl, ll]; omega, by rw [ll]; omega⟩
  ·obtain ⟨k, hk⟩ := List.mem_iff_getElem?.1 ht
   obtain ⟨hk, rfl⟩ := begT_get _ _ _ _ hk
   have l1 := hl k (by omega)
   have l2 := hl (k + 1) (by omega)
   rcases s with ⟨e1, e2⟩ | ⟨e1, e2⟩ | ⟨e1, e2⟩ <;> simp only [] at e1 e2 <;> omega
  ·obtain ⟨t, ht, s⟩ := s
   obtain ⟨k, hk⟩ := List.mem_iff_getElem?.1 ht
   obtain ⟨hk, rfl⟩ := begT_get _ _ _ _ hk
   have l1 := hl k (by omega)
   have l2 := hl (k + 1) (by omega)
   rw [ll] at s hi'
   have gq : gH (b ++ [q]) q = q := by have := gH_app2 b q; rwa [hb] at this
   rcases Nat.lt_or_ge i q with h | h
   ·rw [Nat.mod_eq_of_lt (by omega), gH_app _ _ i (by omega)] at s
    have l3 := hl i h
    rcases Nat.lt_or_ge (i + 1) q with h4 | h4
    ·rw [gH_app _ _ _ (by omega)] at s
     have l4 := hl (i + 1) h4
     rcases s with ⟨e1, e2⟩ | ⟨e1, e2⟩ | ⟨e1, e2⟩ <;> simp only [] at e1 e2
     ·have a := hi _ _ (by omega) (by omega) e1
      have := hi _ _ (by omega) (by omega) e2; omega
     ·omega
     ·omega
    ·rw [show i + 1 = q by omega, gq] at s
     rcases s with ⟨e1, e2⟩ | ⟨e1, e2⟩ | ⟨e1, e2⟩ <;> simp only [] at e1 e2
     ·omega
     ·omega
     ·have := hi _ _ (by omega) (by omega) e2; omega
   ·have e : i = q := by omega
    subst e
    rw [Nat.mod_self, gq, gH_app _ _ _ (by omega)] at s
    have l3 := hl 0 (by omega)
    rcases s with ⟨e1, e2⟩ | ⟨e1, e2⟩ | ⟨e1, e2⟩ <;> simp only [] at e1 e2
    ·omega
    ·have := hi _ _ (by omega) (by omega) e1; omega
    ·omega
end
/-- X, Y: strictly rising; X0, Y0: the points; the signs agree -/
theorem bld_all {X Y X0 Y0 : Nat → Int} {N q : Nat} (hX : gRis X N) (hs : ∀ a b c, a < N → b < N → c < N → (wy X0 Y0 a b c < 0 ↔ gT X Y a b c < 0) ∧ (wy X0 Y0 a b c = 0 ↔ gT X Y a b c = 0))
    (h2 : 2 ≤ q) (hq : q < N) (hl : ∀ i, 2 ≤ i → i < q → wy X0 Y0 0 1 i = 0) (hn : wy X0 Y0 0 1 q ≠ 0) :
    ∀ k, q + k < N → Hul X Y (q + k) (bld X0 Y0 q k).1 ∧ Bnd (q + k) (bld X0 Y0 q k).1 (bld X0 Y0 q k).2 ∧ Fresh N (fun _ _ => False) (bld X0 Y0 q k).2 := by
 have hL : gLn X Y q := fun i hi => by
  rcases Nat.lt_or_ge i 2 with h | h
  ·have : i = 0 ∨ i = 1 := by omega
   rcases this with rfl | rfl
   ·exact gT_end1 _ _
   ·exact gT_end2 _ _
  ·exact (hs 0 1 i (by omega) (by omega) (by omega)).2.1 (hl i h hi)
 have hsg : ∀ k, q + k < N → ∀ {h : List Nat}, Hul X Y (q + k) h → q + k + 1 < N → ∀ i, i < h.length → sE X0 Y0 h (q + k + 1) i = gsn X Y h (q + k + 1) i := by
  intro k hk h H hp i hi
  have h3 := H.len
  have l1 := H.le i hi
  have l2 := H.le ((i + 1) % h.length) (Nat.mod_lt _ (by omega))
  unfold sE gsn
  have := (hs (gH h i) (gH h ((i + 1) % h.length)) (q + k + 1) (by omega) (by omega) hp).1
  exact decide_eq_decide.2 this
 intro k
 induction k with
 | zero =>
  intro _
  show Hul X Y q (begH X0 Y0 q ++ [q]) ∧ Bnd q (begH X0 Y0 q ++ [q]) (begT (begH X0 Y0 q) q) ∧ Fresh N _ (begT (begH X0 Y0 q) q)
  have hc := hs 0 1 q (by omega) (by omega) hq
  unfold begH
  split
  ·rename_i hh
   have H := base_dn hX h2 hq hL (hc.1.1 hh)
   have g1 : ∀ i, i < q → gH (List.range q).reverse i = q - 1 - i := fun i h => by rw [← gH_app _ q i (by simpa using h), gH_dn, if_pos h]
   have := beg_fresh (N := N) (b := (List.range q).reverse) h2 hq (by simp) (fun i j hi hj e => by rw [g1 i hi, g1 j hj] at e; omega) (fun i hi => by rw [g1 i hi]; omega)
   exact ⟨H, this.2, this.1⟩
  ·rename_i hh
   have H := base_up hX h2 hq hL (by have a := mt hc.1.2 hh; have b := mt hc.2.2 hn; omega)
   have g1 : ∀ i, i < q → gH (List.range q) i = i := fun i h => by rw [← gH_app _ q i (by simpa using h), gH_up, if_pos (by omega)]
   have := beg_fresh (N := N) (b := List.range q) h2 hq (by simp) (fun i j hi hj e => by rw [g1 i hi, g1 j hj] at e; omega) (fun i hi => by rw [g1 i hi]; omega)
   exact ⟨H, this.2, this.1⟩
 | succ k ih =>
  intro hk
  obtain ⟨H, B, F⟩ := ih (by omega)
  have ho := H.addok hX (p := q + k + 1) (Nat.lt_succ_self _) hk (by omega) (hsg k (by omega) H hk)
  have hg := hsg k (by omega) H hk
  have h3 := H.len
  obtain ⟨A, off⟩ := ho
  have ml : ∀ k', k' % (bld X0 Y0 q k).1.length < (bld X0 Y0 q k).1.length := fun k' => Nat.mod_lt _ (by omega)
  refine ⟨H.next hX hk (by omega) A.f0 A.j0 A.j1 (by rw [← hg _ (pred_lt A.f0)]; exact A.at0) (fun k' h' => by rw [← hg _ (ml _)]; exact A.run k' h') off, H.bnd B A.f0 A.j0 A.j1, ?_⟩
  show Fresh N _ ((bld X0 Y0 q k).2 ++ addT _ _ _ _)
  rw [fresh_app]
  refine ⟨F, (fresh_cong N _ _ _ fun a b => ?_).1 (H.putok B hk A.j1)⟩
  exact ⟨.inr, fun c => c.elim False.elim id⟩
/-- and each next point is added -/
theorem bld_add {X Y X0 Y0 : Nat → Int} {N q : Nat} (hX : gRis X N) (hs : ∀ a b c, a < N → b < N → c < N → (wy X0 Y0 a b c < 0 ↔ gT X Y a b c < 0) ∧ (wy X0 Y0 a b c = 0 ↔ gT X Y a b c = 0))
    (h2 : 2 ≤ q) (hq : q < N) (hl : ∀ i, 2 ≤ i → i < q → wy X0 Y0 0 1 i = 0) (hn : wy X0 Y0 0 1 q ≠ 0) (k : Nat) (hk : q + k + 1 < N) :
    AddOk X0 Y0 (bld X0 Y0 q k).1 (q + k + 1) (firstI X0 Y0 (bld X0 Y0 q k).1 (q + k + 1)) (runJ X0 Y0 (bld X0 Y0 q k).1 (q + k + 1) (firstI X0 Y0 (bld X0 Y0 q k).1 (q + k + 1))) := by
  obtain ⟨H, _, _⟩ := bld_all hX hs h2 hq hl hn k (by omega)
  have h3 := H.len
  refine (H.addok hX (p := q + k + 1) (Nat.lt_succ_self _) hk (by omega) fun i hi => ?_).1
  have l1 := H.le i hi
  have l2 := H.le ((i + 1) % (bld X0 Y0 q k).1.length) (Nat.mod_lt _ (by omega))
  exact decide_eq_decide.2 (hs (gH (bld X0 Y0 q k).1 i) (gH (bld X0 Y0 q k).1 ((i + 1) % (bld X0 Y0 q k).1.length)) (q + k + 1) (by omega) (by omega) hk).1
end Go.Proofs.Ytdlpfiiakmhnlaa

namespace Go.Proofs.Ytdlpfiiakmhnlaa
open Go.RowKit

/-- the rows hold just the sides S -/
def RepS (O : Nat → List (Nat × Nat)) (S : Nat → Nat → Prop) : Prop := (∀ a, SortH (O a)) ∧ ∀ a b : Nat, lookH (O a) b = none ↔ ¬ S a b
theorem rep_put1 {O : Nat → List (Nat × Nat)} {S : Nat → Nat → Prop} (h : RepS O S) {a b c : Nat} (hn : ¬ S a b) : RepS (put1 O a b c) (fun x y => S x y ∨ (x = a ∧ y = b)) := by
  have hl := (h.2 a b).2 hn
  refine ⟨fun x => ?_, fun x y => ?_⟩
  · unfold put1
    split
    · exact insH_sort (h.1 a) (lookH_absent hl)
    · exact h.1 x
  · unfold put1
    split
    · rename_i e
      subst e
      rw [lookH_ins (h.1 x) hl]
      split
      · rename_i e2
        subst e2
        constructor
        · intro e3; cases e3
        · intro e3; exact absurd (.inr ⟨rfl, rfl⟩) e3
      · rename_i e2
        rw [h.2 x y]
        constructor
        · rintro e3 (e4 | ⟨_, e4⟩)
          · exact e3 e4
          · exact e2 e4
        · intro e3 e4; exact e3 (.inl e4)
    · rename_i e
      rw [h.2 x y]
      constructor
      · rintro e3 (e4 | ⟨e4, _⟩)
        · exact e3 e4
        · exact e e4
      · intro e3 e4; exact e3 (.inl e4)
theorem rep_cong {O : Nat → List (Nat × Nat)} {S S' : Nat → Nat → Prop} (h : RepS O S) (he : ∀ a b, S a b ↔ S' a b) : RepS O S' := ⟨h.1, fun a b => (h.2 a b).trans (not_congr (he a b))⟩
theorem rep_putT {N : Nat} {O : Nat → List (Nat × Nat)} {S : Nat → Nat → Prop} (h : RepS O S) {t : Tri3} (ht : okT N S t) : RepS (putT O t.1 t.2.1 t.2.2) (fun x y => S x y ∨ gsd t x y) := by
  obtain ⟨_, _, _, n1, n2, n3, s1, s2, s3⟩ := ht
  have h1 := rep_put1 (c := t.2.2) h s1
  have h2 := rep_put1 (a := t.2.1) (b := t.2.2) (c := t.1) h1 (by rintro (e | ⟨e, _⟩); exact s2 e; exact n1 e.symm)
  have h3 := rep_put1 (a := t.2.2) (b := t.1) (c := t.2.1) h2 (by rintro ((e | ⟨e, _⟩) | ⟨e, _⟩); exact s3 e; exact n3 e.symm; exact n2 e.symm)
  refine rep_cong h3 fun a b => ?_
  unfold gsd
  constructor
  · rintro (((e | e) | e) | e)
    · exact .inl e
    · exact .inr (.inl e)
    · exact .inr (.inr (.inl e))
    · exact .inr (.inr (.inr e))
  · rintro (e | e | e | e)
    · exact .inl (.inl (.inl e))
    · exact .inl (.inl (.inr e))
    · exact .inl (.inr e)
    · exact .inr e
theorem putok_fresh {N : Nat} : ∀ (l : List Tri3) {O : Nat → List (Nat × Nat)} {S : Nat → Nat → Prop}, RepS O S → Fresh N S l → PutOk N O l := by
  intro l
  induction l with
  | nil => intro O S _ _; trivial
  | cons t l ih =>
    intro O S h hf
    obtain ⟨h1, h2⟩ := hf
    have hr := rep_putT h h1
    obtain ⟨a1, a2, a3, a4, a5, a6, a7, a8, a9⟩ := h1
    exact ⟨⟨a1, a2, a3, a4, a5, a6, (h.2 _ _).2 a7, (h.2 _ _).2 a8, (h.2 _ _).2 a9⟩, ih hr h2⟩
theorem rep_all {N : Nat} : ∀ (l : List Tri3) {O : Nat → List (Nat × Nat)} {S : Nat → Nat → Prop}, RepS O S → Fresh N S l → RepS (putAll O l) (fun a b => S a b ∨ gSd l a b) := by
  intro l
  induction l with
  | nil => intro O S h _; exact rep_cong h fun a b => ⟨.inl, fun c => c.elim id fun ⟨t, ht, _⟩ => by cases ht⟩
  | cons t l ih =>
    intro O S h hf
    refine rep_cong (ih (rep_putT h hf.1) hf.2) fun a b => ?_
    constructor
    · rintro ((c | c) | ⟨u, hu, c⟩)
      · exact .inl c
      · exact .inr ⟨t, List.mem_cons_self .., c⟩
      · exact .inr ⟨u, List.mem_cons_of_mem _ hu, c⟩
    · rintro (c | ⟨u, hu, c⟩)
      · exact .inl (.inl c)
      · rcases List.mem_cons.1 hu with rfl | hu
        · exact .inl (.inr c)
        · exact .inr ⟨u, hu, c⟩
theorem rep_none : RepS (fun _ => []) (fun _ _ => False) := ⟨fun _ j k x y _ h => by simp at h, fun a b => ⟨fun _ h => h, fun _ => rfl⟩⟩
theorem allC_rpT {n : Nat} {X Y : Nat → Int} (h : allC n X Y = true) {i : Nat} (hi : i < n) : rp (X i) (Y i) = true := by
  unfold allC at h
  exact List.all_eq_true.1 h i (List.mem_range.2 hi)
/-- coordinates that rise strictly -/
def sX (X Y : Nat → Int) : Nat → Int := fun i => 4398046511105 * X i + Y i
theorem sX_T (X Y : Nat → Int) (a b c : Nat) : gT (sX X Y) Y a b c = 4398046511105 * gT X Y a b c := by unfold gT sX; grind
theorem sX_step {ax ay bx b_y : Int} (h1 : -2199023255552 ≤ ay) (h2 : ay ≤ 2199023255552) (h3 : -2199023255552 ≤ b_y) (h4 : b_y ≤ 2199023255552) (hc : cmpP ax ay bx b_y < 0) : 4398046511105 * ax + ay < 4398046511105 * bx + b_y := by
  unfold cmpP or2 cmpI at hc
  by_cases e1 : ax < bx
  · omega
  · by_cases e2 : ax = bx
    · subst e2
      simp at hc
      split at hc
      · omega
      · split at hc <;> simp at hc
    · simp [e1, e2] at hc
theorem sX_ris {N : Nat} {X Y : Nat → Int} (hg : allC N X Y = true) (hr : risC N X Y) : gRis (sX X Y) N := by
  have step : ∀ i, i + 1 < N → sX X Y i < sX X Y (i + 1) := fun i hi => by
    have a := (rp_co (allC_rpT hg (show i < N by omega))).2
    have b := (rp_co (allC_rpT hg hi)).2
    exact sX_step a.1 a.2 b.1 b.2 (hr i hi)
  intro i j hij
  induction j with
  | zero => omega
  | succ j ih =>
    intro hj
    rcases Nat.lt_or_ge i j with h | h
    · exact Int.lt_trans (ih h (by omega)) (step j hj)
    · rw [show i = j by omega]; exact step j hj
theorem wy_sgn {N : Nat} {X Y : Nat → Int} (hg : allC N X Y = true) {a b c : Nat} (ha : a < N) (hb : b < N) (hc : c < N) : wy X Y a b c = (gT X Y a b c).sign := by
  unfold wy way rp3
  rw [allC_rpT hg ha, allC_rpT hg hb, allC_rpT hg hc]
  rfl
theorem wy_gT {N : Nat} {X Y : Nat → Int} (hg : allC N X Y = true) (a b c : Nat) (ha : a < N) (hb : b < N) (hc : c < N) :
    (wy X Y a b c < 0 ↔ gT (sX X Y) Y a b c < 0) ∧ (wy X Y a b c = 0 ↔ gT (sX X Y) Y a b c = 0) := by
  rw [wy_sgn hg ha hb hc, sX_T]
  rcases Int.lt_trichotomy (gT X Y a b c) 0 with h | h | h
  · rw [Int.sign_eq_neg_one_of_neg h]; omega
  · rw [h]; simp
  · rw [Int.sign_eq_one_of_pos h]; omega
theorem mem_gH {h : List Nat} {x : Nat} (hx : x ∈ h) : ∃ i, i < h.length ∧ gH h i = x := by
  obtain ⟨i, hi, e⟩ := List.getElem_of_mem hx
  refine ⟨i, hi, ?_⟩
  unfold gH
  rw [List.getD_eq_getElem?_getD, List.getElem?_eq_getElem hi, e]; rfl
/-- the builder's state behind q + k points -/
theorem bld_st {N q : Nat} {X Y : Nat → Int} (hg : allC N X Y = true) (hr : risC N X Y) (hl : isLn N X Y q) (hq : q < N) (k : Nat) (hk : q + k < N) :
    Hul (sX X Y) Y (q + k) (bld X Y q k).1 ∧ Bnd (q + k) (bld X Y q k).1 (bld X Y q k).2 ∧ Fresh N (fun _ _ => False) (bld X Y q k).2 :=
  bld_all (sX_ris hg hr) (wy_gT hg) (by have := hl.1; omega) hq (fun i h1 h2 => hl.2.2.1 i h1 h2) (hl.2.2.2 hq) k hk
theorem bld_ok {N q : Nat} {X Y : Nat → Int} (hN : N ≤ 4096) (hg : allC N X Y = true) (hr : risC N X Y) (hl : isLn N X Y q) (hq : q < N) : BldOk N X Y q := by
  have st := bld_st hg hr hl hq
  refine ⟨fun k hk => putok_fresh _ rep_none (st k hk).2.2, fun k hk x hx => ?_, fun k hk => bld_add (sX_ris hg hr) (wy_gT hg) (by have := hl.1; omega) hq (fun i h1 h2 => hl.2.2.1 i h1 h2) (hl.2.2.2 hq) k hk, fun k hk => ?_, fun k hk => ?_⟩
  · obtain ⟨i, hi, rfl⟩ := mem_gH hx
    have := (st k hk).1.le i hi; omega
  · have := (st k hk).2.1.hln; omega
  · have := (st k hk).2.1.cnt; omega
/-- what Build puts -/
def bldT (N : Nat) (X Y : Nat → Int) (q : Nat) : List Tri3 := if q = N then [] else (bld X Y q (N - 1 - q)).2
set_option maxRecDepth 100000 in
theorem Build_is (ao : Option Addr) (N cap : Nat) (X Y : Nat → Int) (w : World) (h : Pts w ao N cap X Y) (hN : N ≤ 4096) (hg : allC N X Y = true) (hr : risC N X Y) :
    Calls Try.prog 12 #[.slice ao N cap] w fun e w' => ∃ (t : Nat) (D : SD) (q : Nat), e = .returned (.tuple #[ptr t 0, .int .i64 0]) ∧ isLn N X Y q ∧
      SM w' t D N X Y (putAll (fun _ => []) (bldT N X Y q)) ((bldT N X Y q).length : Nat) ∧ (∀ g, D.has t N g → w.heap.size ≤ g) ∧ Below w.heap.size w w' := by
  refine (Build_ok ao N cap X Y w h hN hg hr fun q hl hq => bld_ok hN hg hr hl hq).mono ?_
  rintro e w' ⟨t, D, q, he, hl, hs, h1, h2⟩
  refine ⟨t, D, q, he, hl, ?_, h1, h2⟩
  unfold bldT
  by_cases hqn : q = N
  · rw [if_pos hqn] at hs ⊢
    rw [if_pos hqn] at hs
    exact hs
  · rw [if_neg hqn] at hs ⊢
    rw [if_neg hqn] at hs
    exact hs
end Go.Proofs.Ytdlpfiiakmhnlaa

namespace Go.Proofs.Ytdlpfiiakmhnlaa
open Go.RowKit

set_option maxRecDepth 100000 in
set_option maxHeartbeats 4000000 in
theorem Build_fall (ao : Option Addr) (N cap : Nat) (X Y : Nat → Int) (w : World) (h : Pts w ao N cap X Y) (hN : N ≤ 4096) (hg : allC N X Y = true) (hr : ¬ risC N X Y) :
    Calls Try.prog 12 #[.slice ao N cap] w fun e w' => e = .returned (.tuple #[.pointer none, .int .i64 10]) ∧ Below w.heap.size w w' := by
 have hcl := h.capl
 have hcb := h.capb
 have HO := Lib.hid h
 have HG := Lib.hid hg
 have HR := Lib.hid hr
 clear h hg hr
 go_enter Try.func12, Try.ntmps12
 go_wp2_with fail
 go_loopg [15] N (fun gk s15 wr => ∃ k : Nat, s15 = .int .i64 k ∧ k ≤ N ∧ N - k ≤ gk ∧ Hid (Below w.heap.size w wr))
 case atStart => exact ⟨0, rfl, Nat.zero_le _, by omega, Lib.hid (Below.refl _ _)⟩
 case round =>
  obtain ⟨k, rfl, hk, hgk, HW⟩ := hrel
  by_cases hlt : k < N
  ·obtain ⟨a, rfl, p0, p1⟩ := HO.out.at HW.out hlt
   obtain ⟨px, hpx⟩ : ∃ x, X k = x := ⟨_, rfl⟩
   obtain ⟨py, hpy⟩ : ∃ x, Y k = x := ⟨_, rfl⟩
   have hrp : rp px py = true := by rw [← hpx, ← hpy]; exact List.all_eq_true.1 (by have := HG.out; unfold allC at this; exact this) k (List.mem_range.2 hlt)
   rw [hpx] at p0
   rw [hpy] at p1
   have HRP := Lib.hid hrp
   clear hpx hpy hrp
   go_wp2_with fail
   refine calls_w ?_
   intro V hV
   have hbV : Below wr.heap.size wr V := by rw [hV]; exact below_a1 _ _
   clear hV p0 p1
   have hpr := PtRight_any px py V
   rw [show (inC px && inC py) = true from HRP.out] at hpr
   refine hpr.mono ?_
   rintro e W2 ⟨rfl, hn⟩
   have HW2 := Lib.hid ((HW.out.trans (hbV.mono HW.out.size)).trans (hn.mono (HW.out.trans (hbV.mono HW.out.size)).size))
   clear hn hbV HW hpr
   go_wp2_with fail
   go_roundg (N - (k + 1))
   case measure => omega
   case rel => exact ⟨k + 1, by norm_cast, by omega, Nat.le_refl _, HW2⟩
  ·go_wp2_with fail
   clear hk hgk hlt
   go_loopg [6] N (fun gk s6 wr => ∃ k : Nat, s6 = .int .i64 k ∧ 1 ≤ k ∧ (k ≤ N ∨ k = 1) ∧ N - k ≤ gk ∧ Hid (∀ i, i + 1 < k → cmpP (X i) (Y i) (X (i + 1)) (Y (i + 1)) < 0) ∧ Hid (Below w.heap.size w wr))
   case atStart => exact ⟨1, rfl, Nat.le_refl _, .inr rfl, by omega, Lib.hid (fun i hi => by omega), HW⟩
   case round =>
    clear HW
    obtain ⟨k, rfl, hk1, hk, hgk, HS, HW⟩ := hrel
    by_cases hlt : k < N
    ·obtain ⟨i, rfl⟩ : ∃ i, k = i + 1 := ⟨k - 1, by omega⟩
     obtain ⟨pa, rfl, hpt⟩ := (HO.out.of HW.out).atP (by omega)
     have qa := hpt i (by omega)
     have qb := hpt (i + 1) hlt
     obtain ⟨ax, hax⟩ : ∃ x, X i = x := ⟨_, rfl⟩
     obtain ⟨ay, hay⟩ : ∃ x, Y i = x := ⟨_, rfl⟩
     obtain ⟨bx, hbx⟩ : ∃ x, X (i + 1) = x := ⟨_, rfl⟩
     obtain ⟨b_y, hby⟩ : ∃ x, Y (i + 1) = x := ⟨_, rfl⟩
     rw [hax, hay] at qa
     rw [hbx, hby] at qb
     have qa0 := fun u => (qa u).1
     have qa1 := fun u => (qa u).2
     have qb0 := fun u => (qb u).1
     have qb1 := fun u => (qb u).2
     obtain ⟨r, hr⟩ : ∃ r, cmpP ax ay bx b_y = r := ⟨_, rfl⟩
     have HCM := Lib.hid (show cmpP (X i) (Y i) (X (i + 1)) (Y (i + 1)) = r by rw [hax, hay, hbx, hby]; exact hr)
     have HC := Lib.hid hr
     have hii : ((i + 1 : Nat) : Int) - 1 = (i : Int) := by omega
     clear hpt qa qb hax hay hbx hby hr
     have hbk := HW.out
     go_wp2_with fail
     refine wp_region_up wr.heap.size 9 [(true, 0), (true, 1), (true, 2), (true, 3), (true, 4), (true, 5), (true, 6), (true, 7), (true, 8)] (by kernel_rfl) (by kernel_rfl) (fun _ _ d _ _ h => by cases d <;> exact h) ?_
     have hb : Below wr.heap.size wr wr.drew := (Below.refl _ _).drew
     iterate 9
      first | refine wpS_takeL rfl rfl ?_ | refine wpS_takeB rfl rfl rfl ?_
      first | go_big_quiet_step (rfl) | (go_big_quiet_want; go_big_quiet_op; refine ⟨_, fun _ => rfl, ?_⟩; go_big_quiet_on)
      refine wpQuiet_nil ?_
     refine wpS_nil ?_
     simp only [List.drop_succ_cons, List.drop_zero]
     go_wp2_with fail
     refine (PtCmp_is ax ay bx b_y r HC.out _).mono ?_
     rintro e W2 ⟨rfl, hn⟩
     have HW2 := Lib.hid ((hbk.trans (hb.mono hbk.size)).trans (hn.mono (hbk.trans (hb.mono hbk.size)).size))
     clear hn hb hbk HW qa0 qa1 qb0 qb1
     by_cases hrn : 0 ≤ r
     ·go_wp2
      simp [bodyPost, results, Try.results12, go_sem]
      exact HW2.out
     ·have HS2 := Lib.hid (show ∀ j, j + 1 < i + 1 + 1 → cmpP (X j) (Y j) (X (j + 1)) (Y (j + 1)) < 0 from fun j hj => by
       rcases Nat.lt_or_ge (j + 1) (i + 1) with h4 | h4
       ·exact HS.out j h4
       ·rw [show j = i by omega, HCM.out]; omega)
      go_wp2_with fail
      go_roundg (N - (i + 1 + 1))
      case measure => omega
      case rel => exact ⟨i + 1 + 1, by norm_cast, by omega, by omega, Nat.le_refl _, HS2, HW2⟩
    ·exfalso
     exact HR.out fun j hj => HS.out j (by omega)
end Go.Proofs.Ytdlpfiiakmhnlaa

namespace Go.Proofs.Ytdlpfiiakmhnlaa
open Go.RowKit

/-- are the first k points right, and do they rise? -/
def rsP (k : Nat) (X Y : Nat → Int) : Prop := ∀ i, i < k → rp (X i) (Y i) = true ∧ (0 < i → ahd (X (i - 1)) (Y (i - 1)) (X i) (Y i) = true)
theorem rsP_up {k : Nat} {X Y : Nat → Int} (h : rsP k X Y) (h1 : rp (X k) (Y k) = true) (h2 : 0 < k → ahd (X (k - 1)) (Y (k - 1)) (X k) (Y k) = true) : rsP (k + 1) X Y := by
  intro i hi
  rcases Nat.lt_or_ge i k with h3 | h3
  · exact h i h3
  · rw [show i = k by omega]; exact ⟨h1, h2⟩
theorem ahd_cmp {ax ay bx b_y : Int} : ahd ax ay bx b_y = true ↔ cmpP ax ay bx b_y < 0 := by
  unfold ahd cmpP or2 cmpI
  by_cases e1 : ax < bx
  · simp [e1]
  · by_cases e2 : ax = bx
    · subst e2
      by_cases e3 : ay < b_y
      · simp [e3]
      · by_cases e4 : ay = b_y <;> simp [e3, e4]
    · simp [e1, e2]
theorem rsP_ris {N : Nat} {X Y : Nat → Int} : rsP N X Y ↔ allC N X Y = true ∧ risC N X Y := by
  constructor
  · intro h
    refine ⟨?_, fun i hi => ?_⟩
    · unfold allC
      exact List.all_eq_true.2 fun i hi => (h i (List.mem_range.1 hi)).1
    · exact ahd_cmp.1 ((h (i + 1) hi).2 (by omega))
  · rintro ⟨h1, h2⟩ i hi
    refine ⟨allC_rpT h1 hi, fun h0 => ?_⟩
    have := h2 (i - 1) (by omega)
    rw [show i - 1 + 1 = i by omega] at this
    exact ahd_cmp.2 this
theorem rRight_is (x y : Int) (g : Bool) (hg : rp x y = g) (w : World) : Calls Try.prog 38 #[pI x y] w fun e w' => e = .returned (.bool g) ∧ Below w.heap.size w w' := by
  rw [← hg]; exact rRight_any x y w
theorem Ahead_is (ax ay bx b_y : Int) (g : Bool) (hg : ahd ax ay bx b_y = g) (w : World) : Calls Try.prog 39 #[pI ax ay, pI bx b_y] w fun e w' => e = .returned (.bool g) ∧ Below w.heap.size w w' := by
  rw [← hg]; exact Ahead_any ax ay bx b_y w
set_option maxRecDepth 100000 in
set_option maxHeartbeats 4000000 in
theorem rising_is (ao : Option Addr) (N cap : Nat) (X Y : Nat → Int) (w : World) (h : Pts w ao N cap X Y) (hN : N ≤ 4096) :
    Calls Try.prog 10 #[.slice ao N cap] w fun e w' => ∃ b, e = .returned (.bool b) ∧ (b = true ↔ rsP N X Y) ∧ Below w.heap.size w w' := by
 have hcl := h.capl
 have hcb := h.capb
 have HO := Lib.hid h
 clear h
 go_enter Try.func10, Try.ntmps10
 go_wp2_with fail
 go_loopg [7] N (fun gk s7 wr => ∃ k : Nat, s7 = .int .i64 k ∧ k ≤ N ∧ N - k ≤ gk ∧ Hid (rsP k X Y) ∧ Hid (Below w.heap.size w wr))
 case atStart => exact ⟨0, rfl, Nat.zero_le _, by omega, Lib.hid (fun i hi => by omega), Lib.hid (Below.refl _ _)⟩
 case round =>
  obtain ⟨k, rfl, hk, hgk, HA, HW⟩ := hrel
  by_cases hlt : k < N
  ·obtain ⟨pa, rfl, p0, p1⟩ := HO.out.at HW.out hlt
   obtain ⟨bx, hbx⟩ : ∃ x, X k = x := ⟨_, rfl⟩
   obtain ⟨b_y, hby⟩ : ∃ x, Y k = x := ⟨_, rfl⟩
   rw [hbx] at p0
   rw [hby] at p1
   obtain ⟨g, hg⟩ : ∃ g, rp bx b_y = g := ⟨_, rfl⟩
   have HG := Lib.hid hg
   have HB := Lib.hid (And.intro hbx hby)
   clear hbx hby hg
   go_wp2_with fail
   refine name_world ?_
   intro W hW
   have hbW : Below wr.heap.size wr W := by rw [hW]; exact below_a1 _ _
   have HV : Hid (Blk W wr.heap.size #[.int .i64 bx, .int .i64 b_y] 41) := by rw [hW]; exact Lib.hid (Blk.new wr _ _)
   have c0 := HV.out.cell 0
   have c1 := HV.out.cell 1
   have l0 := HV.out.lt
   have hbk := HW.out.trans (hbW.mono HW.out.size)
   clear hW hbW p0 p1
   rcases Nat.eq_zero_or_pos k with hk0 | hk0
   ·subst hk0
    cases g with
    | true =>
     refine wp_region_up W.heap.size 13 [(true, 0), (false, 1), (true, 2), (true, 3), (true, 4), (true, 5), (true, 6), (true, 7), (true, 8), (true, 9), (true, 10), (true, 11), (true, 12)] (by kernel_rfl) (by kernel_rfl) (fun _ _ d _ _ h => by cases d <;> exact h) ?_
     have hb : Below W.heap.size W W.drew := (Below.refl _ _).drew
     refine wpS_takeL rfl rfl ?_
     go_big_quiet_step (rfl)
     refine wpQuiet_nil ?_
     refine wpS_doL rfl ?_
     intro K hK
     go_wp2_with ((go_at_call 38; (with_reducible refine (rRight_is bx b_y _ HG.out _).mono ?_); rintro e w2 ⟨rfl, hn⟩))
     replace hb := hb.trans (hn.mono hb.size)
     refine hK.out _ _ (up_iff.2 hb) ?_
     clear hK K
     clear hn
     iterate 11
      refine wpS_takeL rfl rfl ?_
      go_big_quiet_step (rfl)
      refine wpQuiet_nil ?_
     refine wpS_nil ?_
     simp only [List.drop_succ_cons, List.drop_zero]
     have HW2 := Lib.hid (hbk.trans (hb.mono hbk.size))
     have HS := Lib.hid (show rsP (0 + 1) X Y from rsP_up HA.out (by rw [HB.out.1, HB.out.2]; exact HG.out) (fun h => absurd h (by omega)))
     go_wp2_with fail
     go_roundg (N - (0 + 1))
     case measure => omega
     case rel => exact ⟨0 + 1, by norm_cast, by omega, Nat.le_refl _, HS, HW2⟩
    | false =>
     refine wp_region_up W.heap.size 13 [(true, 0), (false, 1), (true, 2), (true, 3), (true, 4), (true, 5), (true, 6), (true, 7), (true, 8), (true, 9), (true, 10), (true, 11), (true, 12)] (by kernel_rfl) (by kernel_rfl) (fun _ _ d _ _ h => by cases d <;> exact h) ?_
     have hb : Below W.heap.size W W.drew := (Below.refl _ _).drew
     refine wpS_takeL rfl rfl ?_
     go_big_quiet_step (rfl)
     refine wpQuiet_nil ?_
     refine wpS_doL rfl ?_
     intro K hK
     go_wp2_with ((go_at_call 38; (with_reducible refine (rRight_is bx b_y _ HG.out _).mono ?_); rintro e w2 ⟨rfl, hn⟩))
     replace hb := hb.trans (hn.mono hb.size)
     refine hK.out _ _ (up_iff.2 hb) ?_
     clear hK K
     clear hn
     iterate 11
      refine wpS_takeL rfl rfl ?_
      go_big_quiet_step (rfl)
      refine wpQuiet_nil ?_
     refine wpS_nil ?_
     simp only [List.drop_succ_cons, List.drop_zero]
     have HW2 := Lib.hid (hbk.trans (hb.mono hbk.size))
     go_wp2
     simp [bodyPost, results, Try.results10, go_sem]
     refine ⟨fun hs => ?_, HW2.out⟩
     have hsk := hs (0) hlt
     rw [HB.out.1, HB.out.2, HG.out] at hsk
     cases hsk.1
   ·obtain ⟨i, rfl⟩ : ∃ i, k = i + 1 := ⟨k - 1, by omega⟩
    obtain ⟨pa2, he2, hpt⟩ := (HO.out.of hbk).atP (by omega)
    injection he2 with he2
    rw [← he2] at hpt
    have qa := hpt i (by omega)
    obtain ⟨ax, hax⟩ : ∃ x, X i = x := ⟨_, rfl⟩
    obtain ⟨ay, hay⟩ : ∃ x, Y i = x := ⟨_, rfl⟩
    rw [hax, hay] at qa
    have qa0 := fun u => (qa u).1
    have qa1 := fun u => (qa u).2
    obtain ⟨r, hr⟩ : ∃ r, ahd ax ay bx b_y = r := ⟨_, rfl⟩
    have HR := Lib.hid hr
    have HAA := Lib.hid (And.intro hax hay)
    have hii : ((i + 1 : Nat) : Int) - 1 = (i : Int) := by omega
    have hgt : (0 : Int) < ((i + 1 : Nat) : Int) := by omega
    clear hpt qa hax hay hr he2
    cases g with
    | true =>
     cases r with
     | true =>
      refine wp_region_up W.heap.size 13 [(true, 0), (false, 1), (true, 2), (true, 3), (true, 4), (true, 5), (true, 6), (true, 7), (true, 8), (true, 9), (true, 10), (true, 11), (true, 12)] (by kernel_rfl) (by kernel_rfl) (fun _ _ d _ _ h => by cases d <;> exact h) ?_
      have hb : Below W.heap.size W W.drew := (Below.refl _ _).drew
      refine wpS_takeL rfl rfl ?_
      go_big_quiet_step (rfl)
      refine wpQuiet_nil ?_
      refine wpS_doL rfl ?_
      intro K hK
      go_wp2_with (first | (go_at_call 38; (with_reducible refine (rRight_is bx b_y _ HG.out _).mono ?_); rintro e w2 ⟨rfl, hn⟩) | (go_at_call 39; (with_reducible refine (Ahead_is ax ay bx b_y _ HR.out _).mono ?_); rintro e w2 ⟨rfl, hn⟩))
      replace hb := hb.trans (hn.mono hb.size)
      refine hK.out _ _ (up_iff.2 hb) ?_
      clear hK K
      clear hn
      iterate 11
       refine wpS_takeL rfl rfl ?_
       go_big_quiet_step (rfl)
       refine wpQuiet_nil ?_
      refine wpS_nil ?_
      simp only [List.drop_succ_cons, List.drop_zero]
      have HW2 := Lib.hid (hbk.trans (hb.mono hbk.size))
      go_wp2_with fail
      refine (Ahead_is ax ay bx b_y _ HR.out _).mono ?_
      rintro e W3 ⟨rfl, hn3⟩
      have HW3 := Lib.hid (HW2.out.trans (hn3.mono HW2.out.size))
      have HS := Lib.hid (show rsP (i + 1 + 1) X Y from rsP_up HA.out (by rw [HB.out.1, HB.out.2]; exact HG.out) (fun _ => by rw [HB.out.1, HB.out.2, show i + 1 - 1 = i from rfl, HAA.out.1, HAA.out.2]; exact HR.out))
      go_wp2_with fail
      go_roundg (N - (i + 1 + 1))
      case measure => omega
      case rel => exact ⟨i + 1 + 1, by norm_cast, by omega, Nat.le_refl _, HS, HW3⟩
     | false =>
      refine wp_region_up W.heap.size 13 [(true, 0), (false, 1), (true, 2), (true, 3), (true, 4), (true, 5), (true, 6), (true, 7), (true, 8), (true, 9), (true, 10), (true, 11), (true, 12)] (by kernel_rfl) (by kernel_rfl) (fun _ _ d _ _ h => by cases d <;> exact h) ?_
      have hb : Below W.heap.size W W.drew := (Below.refl _ _).drew
      refine wpS_takeL rfl rfl ?_
      go_big_quiet_step (rfl)
      refine wpQuiet_nil ?_
      refine wpS_doL rfl ?_
      intro K hK
      go_wp2_with (first | (go_at_call 38; (with_reducible refine (rRight_is bx b_y _ HG.out _).mono ?_); rintro e w2 ⟨rfl, hn⟩) | (go_at_call 39; (with_reducible refine (Ahead_is ax ay bx b_y _ HR.out _).mono ?_); rintro e w2 ⟨rfl, hn⟩))
      replace hb := hb.trans (hn.mono hb.size)
      refine hK.out _ _ (up_iff.2 hb) ?_
      clear hK K
      clear hn
      iterate 11
       refine wpS_takeL rfl rfl ?_
       go_big_quiet_step (rfl)
       refine wpQuiet_nil ?_
      refine wpS_nil ?_
      simp only [List.drop_succ_cons, List.drop_zero]
      have HW2 := Lib.hid (hbk.trans (hb.mono hbk.size))
      go_wp2_with fail
      refine (Ahead_is ax ay bx b_y _ HR.out _).mono ?_
      rintro e W3 ⟨rfl, hn3⟩
      have HW3 := Lib.hid (HW2.out.trans (hn3.mono HW2.out.size))
      go_wp2
      simp [bodyPost, results, Try.results10, go_sem]
      refine ⟨fun hs => ?_, HW3.out⟩
      have hsk := hs (i + 1) hlt
      have h2 := hsk.2 (by omega)
      rw [HB.out.1, HB.out.2, show i + 1 - 1 = i from rfl, HAA.out.1, HAA.out.2, HR.out] at h2
      cases h2
    | false =>
     refine wp_region_up W.heap.size 13 [(true, 0), (false, 1), (true, 2), (true, 3), (true, 4), (true, 5), (true, 6), (true, 7), (true, 8), (true, 9), (true, 10), (true, 11), (true, 12)] (by kernel_rfl) (by kernel_rfl) (fun _ _ d _ _ h => by cases d <;> exact h) ?_
     have hb : Below W.heap.size W W.drew := (Below.refl _ _).drew
     refine wpS_takeL rfl rfl ?_
     go_big_quiet_step (rfl)
     refine wpQuiet_nil ?_
     refine wpS_doL rfl ?_
     intro K hK
     go_wp2_with ((go_at_call 38; (with_reducible refine (rRight_is bx b_y _ HG.out _).mono ?_); rintro e w2 ⟨rfl, hn⟩))
     replace hb := hb.trans (hn.mono hb.size)
     refine hK.out _ _ (up_iff.2 hb) ?_
     clear hK K
     clear hn
     iterate 11
      refine wpS_takeL rfl rfl ?_
      go_big_quiet_step (rfl)
      refine wpQuiet_nil ?_
     refine wpS_nil ?_
     simp only [List.drop_succ_cons, List.drop_zero]
     have HW2 := Lib.hid (hbk.trans (hb.mono hbk.size))
     go_wp2
     simp [bodyPost, results, Try.results10, go_sem]
     refine ⟨fun hs => ?_, HW2.out⟩
     have hsk := hs (i + 1) hlt
     rw [HB.out.1, HB.out.2, HG.out] at hsk
     cases hsk.1
  ·go_wp2
   simp [bodyPost, results, Try.results10, go_sem]
   have e : k = N := by omega
   rw [e] at HA
   exact ⟨HA.out, HW.out⟩
end Go.Proofs.Ytdlpfiiakmhnlaa

namespace Go.Proofs.Ytdlpfiiakmhnlaa
open Go.RowKit Go.Shelf

/-- two blocks lie as they lay -/
def Fix2 (l D : Nat) (W W' : World) : Prop := W'.heap[l]? = W.heap[l]? ∧ W'.heap[D]? = W.heap[D]?
theorem Fix2.of {L : List Nat} {l D : Nat} {W W' : World} (h : OutL L W W') (h1 : l < W.heap.size) (h2 : D < W.heap.size) (n1 : l ∉ L) (n2 : D ∉ L) : Fix2 l D W W' := ⟨h.block _ h1 n1, h.block _ h2 n2⟩
theorem putObj_out (W : World) (l : Nat) (o : Obj) : OutL [l] W (W.putObj l o) :=
  ⟨rfl, rfl, rfl, Nat.le_of_eq (by simp), fun k _ hc => World.putObj_heap_other (by simpa using hc)⟩
set_option maxHeartbeats 1000000 in
/-- what lay at or above block B is as it was -/
structure Above (B : Nat) (W W' : World) : Prop where
  size : W.heap.size ≤ W'.heap.size
  block : ∀ k, B ≤ k → k < W.heap.size → W'.heap[k]? = W.heap[k]?
theorem Above.refl (B : Nat) (W : World) : Above B W W := ⟨Nat.le_refl _, fun _ _ _ => rfl⟩
theorem Above.trans {B : Nat} {W W1 W2 : World} (h : Above B W W1) (k : Above B W1 W2) : Above B W W2 :=
  ⟨Nat.le_trans h.size k.size, fun j hj hk => (k.block j hj (Nat.lt_of_lt_of_le hk h.size)).trans (h.block j hj hk)⟩
theorem Above.ofOut {B : Nat} {L : List Nat} {W W' : World} (h : OutL L W W') (hL : ∀ k ∈ L, k < B) : Above B W W' :=
  ⟨h.size, fun k hk hs => h.block k hs fun hm => by have := hL k hm; omega⟩
theorem Above.ofBelow {B : Nat} {W W' : World} (h : Below W.heap.size W W') : Above B W W' := .ofOut (L := []) (.ofBelow h) (fun _ hm => by cases hm)
theorem Above.putObj {B D : Nat} (W : World) (hD : D < B) (o : Obj) : Above B W (W.putObj D o) := .ofOut (putObj_out W D o) (by simpa using hD)
end Go.Proofs.Ytdlpfiiakmhnlaa

namespace Go.Proofs.Ytdlpfiiakmhnlaa
open Go.RowKit Go.Shelf

/-- what lay at or above block B is as it was, but for G -/
structure AboveX (B : Nat) (G : Nat → Prop) (W W' : World) : Prop where
  size : W.heap.size ≤ W'.heap.size
  block : ∀ k, B ≤ k → k < W.heap.size → ¬ G k → W'.heap[k]? = W.heap[k]?
theorem AboveX.refl (B : Nat) (G : Nat → Prop) (W : World) : AboveX B G W W := ⟨Nat.le_refl _, fun _ _ _ _ => rfl⟩
theorem AboveX.trans {B : Nat} {G : Nat → Prop} {W W1 W2 : World} (h : AboveX B G W W1) (k : AboveX B G W1 W2) : AboveX B G W W2 :=
  ⟨Nat.le_trans h.size k.size, fun j hj hk hn => (k.block j hj (Nat.lt_of_lt_of_le hk h.size) hn).trans (h.block j hj hk hn)⟩
theorem AboveX.ofAbove {B : Nat} {G : Nat → Prop} {W W' : World} (h : Above B W W') : AboveX B G W W' := ⟨h.size, fun k h1 h2 _ => h.block k h1 h2⟩
/-- what lay below B, and G, is as it was -/
def BelowX (B : Nat) (G : Nat → Prop) (W W' : World) : Prop := Below B W W' ∧ ∀ g, G g → g < W.heap.size → W'.heap[g]? = W.heap[g]?
theorem BelowX.mono {B B' : Nat} {G : Nat → Prop} {W W' : World} (h : BelowX B G W W') (hb : B' ≤ B) : BelowX B' G W W' := ⟨h.1.mono hb, h.2⟩
theorem BelowX.all {B : Nat} {G : Nat → Prop} {W W' : World} (h : Below W.heap.size W W') (hb : B ≤ W.heap.size) : BelowX B G W W' := ⟨h.mono hb, fun g _ hg => h.block g hg⟩
theorem BelowX.trans {B : Nat} {G : Nat → Prop} {W W1 W2 : World} (h : BelowX B G W W1) (k : BelowX B G W1 W2) : BelowX B G W W2 :=
  ⟨h.1.trans k.1, fun g hg hs => (k.2 g hg (Nat.lt_of_lt_of_le hs h.1.size)).trans (h.2 g hg hs)⟩
/-- the iterator g (captured: lb) tells encs 0, encs 1, .. up to N, as far as it is asked; it turns nothing below B; a round keeps what lies at or above B; it asks Kp between two rounds -/
def TellsX (P : Program) (gf : Nat) (lb : Array Value) (N : Nat) (encs : Nat → Array Value) (B : Nat) (Kp : World → Prop) : Prop :=
  ∀ (m lid : Nat) (I : (Nat → Prop) → Nat → World → Prop) (Ix : Nat → World → Prop), (∀ G k W, I G k W → Kp W) → (∀ G k W, I G k W → ∀ g, G g → B ≤ g ∧ g < W.heap.size) → (∀ G k W W', I G k W → BelowX B G W W' → I G k W') → (∀ k W W', Ix k W → Below B W W' → Ix k W') →
    (∀ G k W, k < N → I G k W → YieldAt Fence.wide m P lid (encs k) W fun e W' => ((e = .returned (.bool true) ∧ ∃ G', (∀ g, G' g → G g ∨ W.heap.size ≤ g) ∧ I G' (k + 1) W') ∨ (e = .returned (.bool false) ∧ Ix (k + 1) W')) ∧ AboveX B G W W') →
    ∀ W, B ≤ W.heap.size → I (fun _ => False) 0 W → CallsIn Fence.wide (m + 1) P gf (#[.func (.yield lid) #[] #[]] ++ lb) W fun e W' => (∃ v, e = .returned v) ∧ ((∃ G, I G N W') ∨ ∃ k, k ≤ N ∧ Ix k W')
def rPostX (B l D : Nat) (W : World) (J : (Nat → Prop) → Nat → World → Prop) (Jx : Code → Nat → World → Prop) (G : Nat → Prop) (k : Nat) : Exit → Act → World → Prop
  | .normal, _, W' => (Fix2 l D W W' ∧ ∃ G', (∀ g, G' g → G g ∨ W.heap.size ≤ g) ∧ J G' (k + 1) W') ∧ AboveX B G W W'
  | .ret, _, W' => (Fix2 l D W W' ∧ Jx .ret (k + 1) W') ∧ AboveX B G W W'
  | .exit id, _, W' => (Fix2 l D W W' ∧ Jx (.exit id) (k + 1) W') ∧ AboveX B G W W'
  | .goto t, _, W' => (Fix2 l D W W' ∧ Jx (.goto t) (k + 1) W') ∧ AboveX B G W W'
  | .panic _, _, _ => False
  | .outgrown, _, _ => False
set_option maxHeartbeats 1000000 in
theorem wpIn_rangeX {P : Program} {g : Operand} {ps : Array Tmp} {assign body : Code} {Q : Exit → Act → World → Prop} {a : Act} {w : World} {m : Nat} {gf : Nat} {lb : Array Value} {N : Nat} {encs : Nat → Array Value} {Kp : World → Prop}
    (hg : a.eval g = .func (.func gf) #[] lb) (eg : ∀ args w, (callFunc gf args).run P w = .ok (.enter gf args) w)
    (hT : TellsX P gf lb N encs (w.heap.size + 2) Kp) (hps : ∀ k, (encs k).size = ps.size)
    (J : (Nat → Prop) → Nat → World → Prop) (Jx : Code → Nat → World → Prop) (hG : ∀ G k W, J G k W → ∀ g, G g → w.heap.size + 2 ≤ g ∧ g < W.heap.size) (hst : ∀ G k W W', J G k W → BelowX w.heap.size G W W' → J G k W') (hxst : ∀ c k W W', Jx c k W → Below w.heap.size W W' → Jx c k W')
    (hKp : ∀ G k W, J G k W → Kp W) (h0 : J (fun _ => False) 0 w)
    (hround : ∀ (lid D k : Nat) (G : Nat → Prop) (W : World), k < N → J G k W → lid = w.heap.size + 1 → D = w.heap.size → lid < W.heap.size → D < W.heap.size →
      assign.wpIn (Fence.wide.inRound lid) m P (Exit.then (fun a₁ w₁ => (Fix2 lid D W w₁ ∧ AboveX (w.heap.size + 2) G W w₁) ∧ ∀ w₂, OutL [lid] w₁ w₂ → body.wpIn (Fence.wide.inRound lid) m P (rPostX (w.heap.size + 2) lid D w₂ J Jx G k) a₁ w₂) (fun _ _ _ => False))
        { tmps := (ps.zip (encs k)).foldl (fun t (p, v) => t.setIfInBounds p v) a.tmps, defers := [] } W)
    (hdone : ∀ D G W, D = w.heap.size → J G N W → W.heap[D]? = some (.deferred (some [])) → Q .normal { a with defers := { target := .collected D, args := #[] } :: a.defers } W)
    (hstop : ∀ D c k W, D = w.heap.size → Jx c k W → W.heap[D]? = some (.deferred (some [])) → c.wpIn Fence.wide (m + 2) P Q { a with defers := { target := .collected D, args := #[] } :: a.defers } W) :
    (Code.rangeFunc g ps assign body).wpIn Fence.wide (m + 2) P Q a w := by
  refine wpIn_rangeFunc ?_
  intro fn hfn
  obtain ⟨rec, hrec⟩ : ∃ rec : LoopState → Option Code → Loop, rec = fun st pe => { state := st, pending := pe, fn, tmps := a.tmps, params := ps, assign, body, defers := w.heap.size } := ⟨_, rfl⟩
  obtain ⟨W1, hW1⟩ : ∃ W1, (w.alloc (.deferred (some []))).alloc (.loop (rec .ready none)) = W1 := ⟨_, rfl⟩
  have hL1 : W1.heap[w.heap.size + 1]? = some (.loop (rec .ready none)) := by
    rw [← hW1]; have := World.alloc_heap_new (w.alloc (.deferred (some []))) (.loop (rec .ready none)); rwa [World.size_alloc] at this
  have hK1 : W1.heap[w.heap.size]? = some (.deferred (some [])) := by
    rw [← hW1]; exact (Below.heap_alloc _ _ _ (by simp)).trans (World.alloc_heap_new w _)
  have hb1 : Below w.heap.size w W1 := by rw [← hW1]; exact below_a2 _ _ _
  have hsz : W1.heap.size = w.heap.size + 2 := by rw [← hW1]; simp
  refine ⟨w.heap.size + 1, [{ target := .collected w.heap.size, args := #[] }], W1, { target := .fn (.func gf) lb, args := #[.func (.yield (w.heap.size + 1)) #[] #[]] }, W1, gf,
    #[.func (.yield (w.heap.size + 1)) #[] #[]] ++ lb, W1, ?_, ?_, ?_, ?_, fun h => absurd h (by decide), ?_⟩
  · rw [← hW1, hrec]; exact run_enterLoop_outer _ _ _ _ _
  · simp only [resolve, hg]
    simp [go_sem]
  · intro f' hf'; trivial
  · simp [invoke, go_sem, eg]
  · refine (hT m (w.heap.size + 1)
      (fun G k W => J G k W ∧ W.heap[w.heap.size + 1]? = some (.loop (rec .ready none)) ∧ W.heap[w.heap.size]? = some (.deferred (some [])))
      (fun k W => ∃ c, Jx c k W ∧ W.heap[w.heap.size + 1]? = some (.loop (rec .done (some c))) ∧ W.heap[w.heap.size]? = some (.deferred (some [])))
      (fun G k W h => hKp G k W h.1) (fun G k W h => hG G k W h.1) (fun G k W W' h hb => ⟨hst G k W W' h.1 (hb.mono (by omega)), (hb.1.block _ (by omega)).trans h.2.1, (hb.1.block _ (by omega)).trans h.2.2⟩)
      (fun k W W' h hb => by obtain ⟨c, h1, h2, h3⟩ := h; exact ⟨c, hxst c k W W' h1 (hb.mono (by omega)), (hb.block _ (by omega)).trans h2, (hb.block _ (by omega)).trans h3⟩)
      ?_ W1 (by omega) ⟨hst _ 0 _ _ h0 ⟨hb1, fun g hg => hg.elim⟩, hL1, hK1⟩).mono ?_
    · rintro G k W hk ⟨hi, hl, hd⟩
      have hlt : w.heap.size + 1 < W.heap.size := (Array.getElem?_eq_some_iff.1 hl).1
      have hy := run_yield (P := P) (args := encs k) hl (by rw [hrec]; exact hps k)
      rw [hrec] at hy
      refine ⟨fn, _, assign, body, hy, roundIn_of_wpIn trivial (wpIn_mono (hround _ _ k G W hk hi rfl rfl hlt (by omega)) ?_)⟩
      rintro e a1 w1 he
      cases e with
      | normal =>
        obtain ⟨⟨hf1, hab1⟩, hbody⟩ := he
        have hl1 : w1.heap[w.heap.size + 1]? = some (.loop (rec .ready none)) := hf1.1.trans hl
        have hd1 : w1.heap[w.heap.size]? = some (.deferred (some [])) := hf1.2.trans hd
        have hlt1 : w.heap.size + 1 < w1.heap.size := (Array.getElem?_eq_some_iff.1 hl1).1
        refine ⟨_, run_beginRound hl1 (by rw [hrec]), wpIn_mono (hbody _ (putObj_out _ _ _)) ?_⟩
        have hl2 : (w1.putObj (w.heap.size + 1) (.loop { rec .ready none with state := .busy })).heap[w.heap.size + 1]? = some (.loop { rec .ready none with state := .busy }) := World.putObj_heap_same hlt1
        have hd2 : (w1.putObj (w.heap.size + 1) (.loop { rec .ready none with state := .busy })).heap[w.heap.size]? = some (.deferred (some [])) := (World.putObj_heap_other (by omega)).trans hd1
        have fin : ∀ (jump : Option Code) (W3 : World), Fix2 (w.heap.size + 1) w.heap.size (w1.putObj (w.heap.size + 1) (.loop { rec .ready none with state := .busy })) W3 →
            (Instr.endRound (w.heap.size + 1) jump).run P W3 = .ok (.bool jump.isNone) (W3.putObj (w.heap.size + 1) (.loop (rec (if jump.isNone then .ready else .done) jump))) ∧
            (W3.putObj (w.heap.size + 1) (.loop (rec (if jump.isNone then .ready else .done) jump))).heap[w.heap.size + 1]? = some (.loop (rec (if jump.isNone then .ready else .done) jump)) ∧
            (W3.putObj (w.heap.size + 1) (.loop (rec (if jump.isNone then .ready else .done) jump))).heap[w.heap.size]? = some (.deferred (some [])) := fun jump W3 hk3 => by
          have hl3 := hk3.1.trans hl2
          have := run_endRound (P := P) jump hl3
          rw [hrec] at this ⊢
          exact ⟨this, World.putObj_heap_same (Array.getElem?_eq_some_iff.1 hl3).1, (World.putObj_heap_other (by omega)).trans (hk3.2.trans hd2)⟩
        have pb : ∀ (W3 : World) (o : Obj), w.heap.size ≤ W3.heap.size → Below w.heap.size W3 (W3.putObj (w.heap.size + 1) o) := fun W3 o h => (putObj_out W3 _ o).below h (by simp)
        have sz3 : ∀ W3 : World, Fix2 (w.heap.size + 1) w.heap.size (w1.putObj (w.heap.size + 1) (.loop { rec .ready none with state := .busy })) W3 → w.heap.size ≤ W3.heap.size := fun W3 h => by
          have := (Array.getElem?_eq_some_iff.1 (h.1.trans hl2)).1; omega
        rintro e a3 W3 hp
        have abv : ∀ o : Obj, AboveX (w.heap.size + 2) G (w1.putObj (w.heap.size + 1) (.loop { rec .ready none with state := .busy })) W3 → AboveX (w.heap.size + 2) G W (W3.putObj (w.heap.size + 1) o) := fun o h => ((hab1.trans (.ofAbove (.putObj _ (by omega) _))).trans h).trans (.ofAbove (.putObj _ (by omega) _))
        cases e with
        | normal =>
          obtain ⟨⟨hf3, G', hG', hJ3⟩, hab⟩ := hp
          obtain ⟨hr, hl4, hk4⟩ := fin none W3 hf3
          have hgg := hG _ _ _ hJ3
          refine ⟨_, _, hr, .inl ⟨rfl, G', fun g hg => ?_, hst _ _ _ _ hJ3 ⟨pb _ _ (sz3 _ hf3), fun g hg _ => World.putObj_heap_other (by have := hgg g hg; omega)⟩, hl4, hk4⟩, abv _ hab⟩
          rcases hG' g hg with h | h
          · exact .inl h
          · refine .inr (Nat.le_trans hab1.size ?_)
            simpa using h
        | ret =>
          obtain ⟨hp, hab⟩ := hp
          obtain ⟨hr, hl4, hk4⟩ := fin (some .ret) W3 hp.1
          exact ⟨_, _, hr, .inr ⟨rfl, .ret, hxst _ _ _ _ hp.2 (pb _ _ (sz3 _ hp.1)), hl4, hk4⟩, abv _ hab⟩
        | exit id =>
          obtain ⟨hp, hab⟩ := hp
          obtain ⟨hr, hl4, hk4⟩ := fin (some (.exit id)) W3 hp.1
          exact ⟨_, _, hr, .inr ⟨rfl, .exit id, hxst _ _ _ _ hp.2 (pb _ _ (sz3 _ hp.1)), hl4, hk4⟩, abv _ hab⟩
        | goto t =>
          obtain ⟨hp, hab⟩ := hp
          obtain ⟨hr, hl4, hk4⟩ := fin (some (.goto t)) W3 hp.1
          exact ⟨_, _, hr, .inr ⟨rfl, .goto t, hxst _ _ _ _ hp.2 (pb _ _ (sz3 _ hp.1)), hl4, hk4⟩, abv _ hab⟩
        | panic ch => exact hp.elim
        | outgrown => exact hp.elim
      | exit id => exact he.elim
      | goto t => exact he.elim
      | ret => exact he.elim
      | panic c => exact he.elim
      | outgrown => exact he.elim
    · rintro e W2 ⟨⟨v, rfl⟩, (⟨G, hi, hl, hd⟩ | ⟨k, _, c, hi, hl, hd⟩)⟩
      · have hlt : w.heap.size + 1 < W2.heap.size := (Array.getElem?_eq_some_iff.1 hl).1
        exact ⟨none, _, by have := run_endLoop (P := P) hl (by rw [hrec]; simp); rw [hrec] at this; exact this, hdone _ _ _ rfl (hst _ _ _ _ hi ⟨(putObj_out _ _ _).below (by omega) (by simp), fun g hg _ => World.putObj_heap_other (by have := hG _ _ _ hi g hg; omega)⟩) ((World.putObj_heap_other (by omega)).trans hd)⟩
      · have hlt : w.heap.size + 1 < W2.heap.size := (Array.getElem?_eq_some_iff.1 hl).1
        exact ⟨some c, _, by have := run_endLoop (P := P) hl (by rw [hrec]; simp); rw [hrec] at this; exact this, hstop _ c k _ rfl (hxst _ _ _ _ hi ((putObj_out _ _ _).below (by omega) (by simp))) ((World.putObj_heap_other (by omega)).trans hd)⟩
end Go.Proofs.Ytdlpfiiakmhnlaa

namespace Go.Proofs.Ytdlpfiiakmhnlaa
open Go.RowKit Go.Shelf

theorem nameIn {F : Fence} {n : Nat} {P : Program} {c : Code} {Q : Exit → Act → World → Prop} {a : Act} {w : World} (h : ∀ W, W = w → c.wpIn F n P Q a W) : c.wpIn F n P Q a w := h w rfl
theorem Around_is (t : Nat) (a : Int) (w : World) :
    Calls Try.prog 29 #[ptr t 0, .int .i64 a] w fun e w' => e = .returned (.func (.func 67) #[] #[ptr w.heap.size 0, ptr (w.heap.size + 1) 0]) ∧ Blk w' w.heap.size #[ptr t 0] 25 ∧ Blk w' (w.heap.size + 1) #[.int .i64 a] 3 ∧ Below w.heap.size w w' := by
  go_enter Try.func29, Try.ntmps29
  go_wp2
  go_ret
  exact ⟨rfl, (Blk.new _ _ _).alloc _, Blk.new1 _ _ _ _, below_a2 _ _ _⟩
/-- the halves of a vertex, none where it is none -/
def rowO (N : Nat) (O : Nat → List (Nat × Nat)) (a : Int) : List (Nat × Nat) := if 0 ≤ a ∧ a < N then O a.toNat else []
def arE (L : List (Nat × Nat)) (k : Nat) : Array Value := #[.int .i64 (L.getD k (0, 0)).1, .int .i64 (L.getD k (0, 0)).2]
set_option maxRecDepth 100000 in
set_option maxHeartbeats 2000000 in
theorem Around1_any (m lid bs ba t B : Nat) (D : SD) (N : Nat) (X Y : Nat → Int) (O : Nat → List (Nat × Nat)) (n a : Int) (L : List (Nat × Nat)) (hL : rowO N O a = L) (I : (Nat → Prop) → Nat → World → Prop) (Ix : Nat → World → Prop)
    (hm : ∀ G k W, I G k W → Blk W bs #[ptr t 0] 25 ∧ Blk W ba #[.int .i64 a] 3 ∧ SM W t D N X Y O n) (hst : ∀ G k W W', I G k W → BelowX B G W W' → I G k W')
    (hY : ∀ G k W, k < L.length → I G k W → YieldAt Fence.wide m Try.prog lid (arE L k) W fun e W' => ((e = .returned (.bool true) ∧ ∃ G', (∀ g, G' g → G g ∨ W.heap.size ≤ g) ∧ I G' (k + 1) W') ∨ (e = .returned (.bool false) ∧ Ix (k + 1) W')) ∧ AboveX B G W W')
    (W : World) (hB : B ≤ W.heap.size) (h0 : I (fun _ => False) 0 W) :
    CallsIn Fence.wide (m + 1) Try.prog 67 #[.func (.yield lid) #[] #[], ptr bs 0, ptr ba 0] W fun e W' => (∃ v, e = .returned v) ∧ ((∃ G, I G L.length W') ∨ ∃ k, k ≤ L.length ∧ Ix k W') := by
 refine callsIn_of_wp Try.func67 rfl trivial ?_ rfl
 simp only [Try.ntmps67, List.size_toArray, List.length_cons, List.length_nil, Nat.reduceAdd, Nat.reduceSub, Array.replicate_succ, Array.replicate_zero, List.push_toArray, List.append_toArray, List.nil_append, List.cons_append]
 obtain ⟨ks, ka, hM⟩ := hm _ 0 W h0
 have b0 := ks.cell 0
 have b1 := ka.cell 0
 simp only [List.getElem?_toArray, List.getElem?_cons_zero] at b0 b1
 have HM := Lib.hid hM
 have HH := Lib.hid (And.intro hm (And.intro hst hY))
 have H0 := Lib.hid h0
 clear hM hm hst hY h0
 gi_wp2_with fail
 refine ⟨trivial, callsIn_wide.2 ?_⟩
 refine (has_is t D N X Y O n a _ HM.out).mono ?_
 rintro e W1 ⟨rfl, hb1⟩
 have HM1 := Lib.hid (HM.out.of hb1)
 have H1 := Lib.hid (HH.out.2.1 _ 0 W W1 H0.out (.all hb1 hB))
 have k1 := ks.of hb1
 have k2 := ka.of hb1
 have hB1 : B ≤ W1.heap.size := Nat.le_trans hB hb1.size
 clear HM H0 b0 b1 ks ka hb1
 have b0 := k1.cell 0
 have b1 := k2.cell 0
 have l0 := k1.lt
 have l1 := k2.lt
 simp only [List.getElem?_toArray, List.getElem?_cons_zero] at b0 b1
 by_cases ha : 0 ≤ a ∧ a < N
 ·obtain ⟨a', rfl⟩ : ∃ a' : Nat, a = a' := ⟨a.toNat, by omega⟩
  have haN : a' < N := by omega
  obtain rfl : L = O a' := by rw [← hL]; unfold rowO; rw [if_pos ha]; rfl
  have hh : hasI N (a' : Int) = true := by unfold hasI; simp; omega
  rw [hh]
  have HROW := Lib.hid (HM1.out.rows a' haN)
  obtain ⟨c0, c1, c2⟩ := HM1.out.c
  have cr := HM1.out.row haN
  have hsm := HM1.out.small
  have hln := HM1.out.len a' haN
  obtain ⟨ao, cap, hv, hc1, hc2, hc3⟩ := HROW.out.val
  have HC3 := Lib.hid hc3
  have lc := HM1.out.lt (.inl rfl)
  have lo := HM1.out.lt (.inr (.inl rfl))
  rw [hv] at cr
  have HV := Lib.hid hv
  clear hh hc3 hv hL
  gi_wp2_with fail
  gi_region
  have H2 := Lib.hid (HH.out.2.1 _ 0 W1 W1.drew H1.out (.all (Below.refl _ _).drew hB1))
  obtain ⟨len, hlen⟩ : ∃ l, (O a').length = l := ⟨_, rfl⟩
  have HLEN := Lib.hid hlen
  rw [hlen] at hc1 HC3 hln cr HV ⊢
  have hB2 : B ≤ W1.drew.heap.size := hB1
  clear H1 HM1 HROW HC3 b0 b1 k1 k2 l0 l1 c0 c1 c2 cr lc lo hlen hB1
  gi_wp2_with fail
  gi_loopg [18] len (fun gk s18 wr => ∃ k : Nat, s18 = .int .i64 k ∧ k ≤ len ∧ len - k ≤ gk ∧ Hid (∃ G, I G k wr) ∧ B ≤ wr.heap.size)
  case atStart => exact ⟨0, rfl, Nat.zero_le _, Nat.le_refl _, Lib.hid ⟨_, H2.out⟩, hB2⟩
  case round =>
   clear H2 hB2
   obtain ⟨k, rfl, hk, hgk, HI, hB2⟩ := hrel
   obtain ⟨G, HI⟩ := HI.out
   have HI := Lib.hid HI
   by_cases hlt : k < len
   ·obtain ⟨ks, ka, hM⟩ := HH.out.1 _ k wr HI.out
    obtain ⟨ao', cap', hv', _, _, hc3'⟩ := (hM.rows a' haN).val
    rw [HV.out] at hv'
    injection hv' with e1 e2 e3
    subst e1
    obtain ⟨g, rfl, _, hgl, hcell⟩ := hc3' (by rw [HLEN.out]; omega)
    obtain ⟨x, hx⟩ : ∃ x, (O a')[k]? = some x := ⟨_, List.getElem?_eq_getElem (show k < (O a').length by rw [HLEN.out]; omega)⟩
    have hcx := hcell k x hx
    have hE : arE (O a') k = #[.int .i64 x.1, .int .i64 x.2] := by unfold arE; rw [List.getD_eq_getElem?_getD, hx]; rfl
    obtain ⟨xt, xc⟩ := x
    have p0 : wr.cell? ⟨g, k * 2, none⟩ = some (.int .i64 (xt : Int)) := hcx.1
    have p1 : wr.cell? ⟨g, k * 2 + 1, none⟩ = some (.int .i64 (xc : Int)) := hcx.2
    have HE := Lib.hid hE
    have hIV := HH.out.2.1 _ k wr (wr.alloc (.cells #[.int .i64 (xt : Int), .int .i64 (xc : Int)] 102)) HI.out (.all ((Below.refl _ _).alloc (Nat.le_refl _) _) hB2)
    obtain ⟨fn, tmps, assign, body, hy, hR⟩   := HH.out.2.2 _ k _ (by rw [HLEN.out]; exact hlt) hIV
    rw [HE.out] at hy
    have hBV : B ≤ (wr.alloc (.cells #[.int .i64 (xt : Int), .int .i64 (xc : Int)] 102)).heap.size := by simp; omega
    have HBV := Lib.hid hBV
    clear ks ka hM hcell hcx hx e2 e3 hc3' hE hIV HI hBV
    gi_wp2
    refine hR.mono ?_
    rintro e W3 ⟨(⟨rfl, G3, _, hI3⟩ | ⟨rfl, hx3⟩), hab⟩
    ·have HI3 : Hid (∃ G, I G (k + 1) W3) := Lib.hid ⟨_, hI3⟩
     have hB3 : B ≤ W3.heap.size := Nat.le_trans HBV.out hab.size
     clear hI3 hab HBV hy hR p0 p1 hB2
     gi_wp2_with fail
     gi_roundg (len - (k + 1))
     case measure => omega
     case rel => exact ⟨k + 1, by norm_cast, by omega, Nat.le_refl _, HI3, hB3⟩
    ·have HX := Lib.hid hx3
     have hkl : k + 1 ≤ (O a').length := by rw [HLEN.out]; omega
     clear hx3 hab HBV hy hR p0 p1 hB2
     gi_wp2
     refine bodyPost_ret (results_none rfl _ _ _) rfl ?_
     exact ⟨⟨_, rfl⟩, .inr ⟨k + 1, hkl, HX.out⟩⟩
   ·have hkl : k = len := by omega
    have HF := Lib.hid (show ∃ G, I G (O a').length wr by rw [HLEN.out, ← hkl]; exact ⟨_, HI.out⟩)
    clear HI
    gi_wp2
    go_end0
    exact ⟨⟨_, rfl⟩, .inl HF.out⟩
 ·obtain rfl : L = [] := by rw [← hL]; unfold rowO; rw [if_neg ha]
  have hh : hasI N a = false := by unfold hasI; simp; omega
  rw [hh]
  clear hh hL
  gi_wp2
  refine bodyPost_ret (results_none rfl _ _ _) rfl ?_
  exact ⟨⟨_, rfl⟩, .inl ⟨_, H1.out⟩⟩
theorem Around1_tells (bs ba t : Nat) (D : SD) (N : Nat) (X Y : Nat → Int) (O : Nat → List (Nat × Nat)) (n a : Int) (L : List (Nat × Nat)) (hL : rowO N O a = L) (B : Nat) :
    TellsX Try.prog 67 #[ptr bs 0, ptr ba 0] L.length (arE L) B (fun W => Blk W bs #[ptr t 0] 25 ∧ Blk W ba #[.int .i64 a] 3 ∧ SM W t D N X Y O n) :=
  fun m lid I Ix hK _ hst _ hY W hB h0 => Around1_any m lid bs ba t B D N X Y O n a L hL I Ix hK hst hY W hB h0
end Go.Proofs.Ytdlpfiiakmhnlaa

namespace Go.Proofs.Ytdlpfiiakmhnlaa
open Go.RowKit Go.Shelf
attribute [local go_sem] Oper.semAt_some

theorem yield_deep {m m' l l0 : Nat} {P : Program} {args : Array Value} {W : World} {R : Ending → World → Prop} (h : YieldAt Fence.wide m P l args W R) : YieldAt (Fence.wide.inRound l0) m' P l args W R := by
  obtain ⟨fn, tmps, assign, body, hy, hR⟩ := h
  exact ⟨fn, tmps, assign, body, hy, hR.1, fun c cs _ => hR.2 c cs (fun d h => by cases h)⟩
theorem Blk.outl {L : List Nat} {W w : World} {b : Nat} {c : Array Value} {t : TypeId} (h : Blk W b c t) (ho : OutL L W w) (hb : b ∉ L) : Blk w b c t := (ho.block b h.lt hb).trans h
/-- what is told of a row -/
def told (a : Nat) (L : List (Nat × Nat)) : List Tri3 := (L.filter fun x => decide (a < x.1) && decide (a < x.2)).map fun x => (a, x.1, x.2)
def preO (O : Nat → List (Nat × Nat)) : Nat → List Tri3
  | 0 => []
  | a + 1 => preO O a ++ told a (O a)
def posO (O : Nat → List (Nat × Nat)) (a j : Nat) : Nat := (preO O a).length + (told a ((O a).take j)).length
theorem preO_le (O : Nat → List (Nat × Nat)) (a : Nat) : ∀ N, a ≤ N → ∃ r, preO O N = preO O a ++ r := by
  intro N
  induction N with
  | zero => intro h; obtain rfl : a = 0 := by omega
            exact ⟨[], rfl⟩
  | succ N ih =>
    intro h
    rcases Nat.lt_or_ge a (N + 1) with h1 | h1
    · obtain ⟨r, hr⟩ := ih (by omega)
      exact ⟨r ++ told N (O N), by show preO O N ++ _ = _; rw [hr, List.append_assoc]⟩
    · obtain rfl : a = N + 1 := by omega
      exact ⟨[], by rw [List.append_nil]⟩
theorem told_app (a : Nat) (l m : List (Nat × Nat)) : told a (l ++ m) = told a l ++ told a m := by unfold told; rw [List.filter_append, List.map_append]
theorem take_succ' {L : List (Nat × Nat)} {j : Nat} {x : Nat × Nat} (h : L[j]? = some x) : L.take (j + 1) = L.take j ++ [x] := by
  rw [List.take_add_one, h]; rfl
theorem posO_no {O : Nat → List (Nat × Nat)} {a j : Nat} {x : Nat × Nat} (h : (O a)[j]? = some x) (hn : ¬ (a < x.1 ∧ a < x.2)) : posO O a (j + 1) = posO O a j := by
  have : told a [x] = [] := by
    unfold told
    rw [List.filter_cons, if_neg (by simpa using hn)]; rfl
  unfold posO
  rw [take_succ' h, told_app, this, List.append_nil]
theorem posO_yes {O : Nat → List (Nat × Nat)} {N a j : Nat} {x : Nat × Nat} (ha : a < N) (h : (O a)[j]? = some x) (hn : a < x.1 ∧ a < x.2) : posO O a (j + 1) = posO O a j + 1 ∧ (preO O N)[posO O a j]? = some (a, x.1, x.2) := by
  have h1 : told a [x] = [(a, x.1, x.2)] := by
    unfold told
    rw [List.filter_cons, if_pos (by simpa using hn)]; rfl
  constructor
  · unfold posO
    rw [take_succ' h, told_app, h1, List.length_append]; rfl
  · obtain ⟨r, hr⟩ := preO_le O (a + 1) N ha
    have hj : j < (O a).length := (List.getElem?_eq_some_iff.1 h).1
    have h2 : O a = (O a).take j ++ x :: (O a).drop (j + 1) := by
      conv => lhs; rw [← List.take_append_drop j (O a)]
      rw [List.drop_eq_getElem_cons hj, (List.getElem?_eq_some_iff.1 h).2]
    have h3 : told a (O a) = told a ((O a).take j) ++ ((a, x.1, x.2) :: told a ((O a).drop (j + 1))) := by
      conv => lhs; rw [h2]
      rw [told_app, show x :: (O a).drop (j + 1) = [x] ++ (O a).drop (j + 1) from rfl, told_app, h1]; rfl
    rw [hr]
    show ((preO O a ++ told a (O a)) ++ r)[(preO O a).length + (told a ((O a).take j)).length]? = _
    rw [h3, List.append_assoc, List.append_assoc, List.getElem?_append_right (by omega), Nat.add_sub_cancel_left, List.getElem?_append_right (by omega), Nat.sub_self]; rfl
theorem posO_0 (O : Nat → List (Nat × Nat)) (a : Nat) : posO O a 0 = (preO O a).length := by unfold posO; rfl
theorem posO_all (O : Nat → List (Nat × Nat)) (a : Nat) : posO O a (O a).length = (preO O (a + 1)).length := by
  unfold posO
  rw [List.take_length]
  show _ = (preO O a ++ told a (O a)).length
  rw [List.length_append]
theorem posO_lt {O : Nat → List (Nat × Nat)} {N a j : Nat} {x : Nat × Nat} (ha : a < N) (h : (O a)[j]? = some x) (hn : a < x.1 ∧ a < x.2) : posO O a j < (preO O N).length := (List.getElem?_eq_some_iff.1 (posO_yes ha h hn).2).1
def allE (l : List Tri3) (k : Nat) : Array Value := #[tI (l.getD k (0, 0, 0)).1 (l.getD k (0, 0, 0)).2.1 (l.getD k (0, 0, 0)).2.2]
theorem All_is (t : Nat) (w : World) :
    Calls Try.prog 27 #[ptr t 0] w fun e w' => e = .returned (.func (.func 63) #[] #[ptr w.heap.size 0]) ∧ Blk w' w.heap.size #[ptr t 0] 25 ∧ Below w.heap.size w w' := by
  go_enter Try.func27, Try.ntmps27
  go_wp2
  go_ret
  exact ⟨rfl, Blk.new _ _ _, below_a1 _ _⟩
/-- the marks that ranges over functions leave in a frame -/
def Marks (y : Nat) (w : World) : List Deferred → Prop
  | [] => True
  | d :: ds => (∃ r, d = { target := .collected r, args := #[] } ∧ y < r ∧ w.heap[r]? = some (.deferred (some [])) ∧ ∀ d', d' ∈ ds → ∀ r', d'.target = .collected r' → r' < r) ∧ Marks y w ds
theorem Marks.keep {y : Nat} {w w' : World} : ∀ {ds : List Deferred}, Marks y w ds → (∀ r, y < r → r < w.heap.size → w'.heap[r]? = w.heap[r]?) → Marks y w' ds := by
  intro ds
  induction ds with
  | nil => intro _ _; trivial
  | cons d ds ih =>
    rintro ⟨⟨r, h1, h2, h3, h4⟩, h5⟩ hk
    exact ⟨⟨r, h1, h2, (hk r h2 (Array.getElem?_eq_some_iff.1 h3).1).trans h3, h4⟩, ih h5 hk⟩
theorem Marks.lt {y : Nat} {w : World} : ∀ {ds : List Deferred}, Marks y w ds → ∀ d, d ∈ ds → ∀ r, d.target = .collected r → r < w.heap.size := by
  intro ds
  induction ds with
  | nil => intro _ d hd; cases hd
  | cons d ds ih =>
    rintro ⟨⟨r, h1, h2, h3, h4⟩, h5⟩ d' hd' r' hr'
    rcases List.mem_cons.1 hd' with rfl | hd'
    · rw [h1] at hr'
      injection hr' with hr'
      rw [← hr']; exact (Array.getElem?_eq_some_iff.1 h3).1
    · exact ih h5 d' hd' r' hr'
theorem Marks.putOld {y : Nat} {w : World} {D : Nat} {o : Obj} : ∀ {ds : List Deferred}, Marks y w ds → (∀ d, d ∈ ds → ∀ r, d.target = .collected r → r < D) → Marks y (w.putObj D o) ds := by
  intro ds
  induction ds with
  | nil => intro _ _; trivial
  | cons d ds ih =>
    rintro ⟨⟨r, h1, h2, h3, h4⟩, h5⟩ hD
    have := hD d (List.mem_cons_self ..) r (by rw [h1])
    exact ⟨⟨r, h1, h2, (World.putObj_heap_other (by omega)).trans h3, h4⟩, ih h5 fun d' hd' => hD d' (List.mem_cons_of_mem _ hd')⟩
theorem Marks.putB {y : Nat} {w w' : World} {M : Nat} : ∀ {ds : List Deferred}, Marks y w ds → Below M w w' → (∀ d, d ∈ ds → ∀ r, d.target = .collected r → r < M) → Marks y w' ds := by
  intro ds
  induction ds with
  | nil => intro _ _ _; trivial
  | cons d ds ih =>
    rintro ⟨⟨r, h1, h2, h3, h4⟩, h5⟩ hb hD
    have := hD d (List.mem_cons_self ..) r (by rw [h1])
    exact ⟨⟨r, h1, h2, (hb.block r this).trans h3, h4⟩, ih h5 hb fun d' hd' => hD d' (List.mem_cons_of_mem _ hd')⟩
theorem Marks.keepD {y : Nat} {w w' : World} : ∀ {ds : List Deferred}, Marks y w ds → (∀ d, d ∈ ds → ∀ r, d.target = .collected r → y < r → r < w.heap.size → w'.heap[r]? = w.heap[r]?) → Marks y w' ds := by
  intro ds
  induction ds with
  | nil => intro _ _; trivial
  | cons d ds ih =>
    rintro ⟨⟨r, h1, h2, h3, h4⟩, h5⟩ hk
    exact ⟨⟨r, h1, h2, (hk d (List.mem_cons_self ..) r (by rw [h1]) h2 (Array.getElem?_eq_some_iff.1 h3).1).trans h3, h4⟩, ih h5 fun d' hd' => hk d' (List.mem_cons_of_mem _ hd')⟩
theorem leaves_marks {F : Fence} {n : Nat} {P : Program} {fn : Func} {tmps : Array Value} {R : Ending → World → Prop} {y B : Nat} (hB : B ≤ y) (G : Nat → Prop) : ∀ (ds : List Deferred) (w : World), B ≤ w.heap.size → Marks y w ds → (∀ d, d ∈ ds → ∀ r, d.target = .collected r → ¬ G r) → (∀ w', BelowX B G w w' → LeavesInM F n P fn tmps R [] .returning w') → LeavesInM F n P fn tmps R ds .returning w := by
  intro ds
  induction ds with
  | nil => intro w hw _ _ h; exact h w ⟨⟨rfl, rfl, rfl, Nat.le_refl _, fun _ _ => rfl⟩, fun _ _ _ => rfl⟩
  | cons d ds ih =>
    rintro w hw ⟨⟨r, h1, h2, h3, h4⟩, h5⟩ hn h
    refine ⟨by simp, .inl ⟨r, _, by rw [h1], run_takeDeferred h3, ?_⟩⟩
    have hb : Below B w (w.putObj r (.deferred none)) := (putObj_out w r _).below hw (by simp; omega)
    have hx : BelowX B G w (w.putObj r (.deferred none)) := ⟨hb, fun g hg _ => World.putObj_heap_other fun e => hn d (List.mem_cons_self ..) r (by rw [h1]) (by rw [← e]; exact hg)⟩
    exact ih _ (Nat.le_trans hw hb.size) (h5.putOld h4) (fun d' hd' => hn d' (List.mem_cons_of_mem _ hd')) fun w' hw' => h w' (hx.trans hw')
set_option maxRecDepth 100000 in
set_option maxHeartbeats 2000000 in
theorem All1_any (m lid bs t B : Nat) (D : SD) (N : Nat) (X Y : Nat → Int) (O : Nat → List (Nat × Nat)) (n : Int) (L : List Tri3) (hL : preO O N = L) (I : (Nat → Prop) → Nat → World → Prop) (Ix : Nat → World → Prop)
    (hm : ∀ G k W, I G k W → Blk W bs #[ptr t 0] 25 ∧ SM W t D N X Y O n) (hG : ∀ G k W, I G k W → ∀ g, G g → B ≤ g ∧ g < W.heap.size) (hst : ∀ G k W W', I G k W → BelowX B G W W' → I G k W') (hxst : ∀ k W W', Ix k W → Below B W W' → Ix k W')
    (hY : ∀ G k W, k < L.length → I G k W → YieldAt Fence.wide m Try.prog lid (allE L k) W fun e W' => ((e = .returned (.bool true) ∧ ∃ G', (∀ g, G' g → G g ∨ W.heap.size ≤ g) ∧ I G' (k + 1) W') ∨ (e = .returned (.bool false) ∧ Ix (k + 1) W')) ∧ AboveX B G W W')
    (W : World) (hB : B ≤ W.heap.size) (h0 : I (fun _ => False) 0 W) :
    CallsIn Fence.wide (m + 1) Try.prog 63 #[.func (.yield lid) #[] #[], ptr bs 0] W fun e W' => (∃ v, e = .returned v) ∧ ((∃ G, I G L.length W') ∨ ∃ k, k ≤ L.length ∧ Ix k W') := by
 refine callsIn_wide.2 ((callsIn_wide (n := 3)).1 ?_)
 refine callsIn_of_wp_marks Try.func63 rfl trivial ?_ rfl
 simp only [Try.ntmps63, List.size_toArray, List.length_cons, List.length_nil, Nat.reduceAdd, Nat.reduceSub, Array.replicate_succ, Array.replicate_zero, List.push_toArray, List.append_toArray, List.nil_append, List.cons_append]
 obtain ⟨ks, hM⟩ := hm _ 0 W h0
 have lb := ks.lt
 have lt := hM.blk.lt
 have b0 := ks.cell 0
 simp only [List.getElem?_toArray, List.getElem?_cons_zero] at b0
 obtain ⟨c0, _, _⟩ := hM.c
 have hsm := hM.small
 have hcl := hM.pts.capl
 have hcb := hM.pts.capb
 have H0 := Lib.hid h0
 have HL := Lib.hid hL
 have HH := Lib.hid (And.intro hm (And.intro hst (And.intro hxst (And.intro hY hG))))
 have hbs : bs ≠ W.heap.size := by omega
 have htn : t ≠ W.heap.size := by omega
 clear hm hG hst hxst hY h0 hL ks hM
 gi_wp2_with fail
 refine nameIn ?_
 intro V hV
 have hbV : Below W.heap.size W V := by rw [hV]; exact below_a1 _ _
 have KY : Hid (Blk V W.heap.size #[.func (.yield lid) #[] #[]] 117) := by rw [hV]; exact Lib.hid (Blk.new _ _ _)
 have H1 : Hid (I (fun _ => False) (posO O 0 0) V) := Lib.hid (HH.out.2.1 _ 0 W V H0.out (.all hbV hB))
 obtain ⟨y, hy⟩ : ∃ y, W.heap.size = y := ⟨_, rfl⟩
 have hyV : y < V.heap.size := by rw [← hy]; exact KY.out.lt
 rw [hy] at KY hB lb lt hbs htn ⊢
 clear hV hbV hy H0 b0 c0 hcl hcb
 refine wpIn_loop_ghost_k (fun gk act wr => ∃ (u3 u4 u5 u12 u13 u14 u15 u16 u17 u18 u19 u20 u21 u22 u23 u24 u25 u26 u27 u28 u29 u30 u31 u32 u33 u34 u35 u36 : Value) (ds : List Deferred) (a : Nat) (G0 : Nat → Prop), (a ≤ N ∧ N - a ≤ gk ∧ Hid (I G0 (posO O a 0) wr ∧ ¬ G0 y ∧ ∀ d, d ∈ ds → ∀ r, d.target = .collected r → ¬ G0 r) ∧ Hid (Blk wr y #[.func (.yield lid) #[] #[]] 117) ∧ y < wr.heap.size ∧ Hid (Marks y wr ds)) ∧ act = { tmps := #[.func (.yield lid) #[] #[], ptr bs 0, ptr y 0, u3, u4, u5, ptr t 0, ptr t 0, .pointer (some ⟨t, 0, none⟩), .slice D.po N D.pc, .int .i64 (N : Nat), .int .i64 (a : Nat), u12, u13, u14, u15, u16, u17, u18, u19, u20, u21, u22, u23, u24, u25, u26, u27, u28, u29, u30, u31, u32, u33, u34, u35, u36], defers := ds }) N ⟨_, _, _, _, _, _, _, _, _, _, _, _, _, _, _, _, _, _, _, _, _, _, _, _, _, _, _, _, [], 0, _, ⟨Nat.zero_le _, Nat.le_refl _, Lib.hid ⟨H1.out, fun h => h, fun d hd => by cases hd⟩, KY, hyV, Lib.hid trivial⟩, rfl⟩ ?_
 intro gk act wr hinv J K hJ hK
 obtain ⟨u3, u4, u5, u12, u13, u14, u15, u16, u17, u18, u19, u20, u21, u22, u23, u24, u25, u26, u27, u28, u29, u30, u31, u32, u33, u34, u35, u36, ds, a, G0, ⟨ha, hga, HI, KYw, hyw, HM⟩, rfl⟩ := hinv
 clear H1 KY hyV
 by_cases haN : a < N
 ·obtain ⟨ks, hM⟩ := HH.out.1 _ _ wr HI.out.1
  have G0s := HH.out.2.2.2.2 _ _ _ HI.out.1
  have HNG := Lib.hid HI.out.2
  have b0 := ks.cell 0
  simp only [List.getElem?_toArray, List.getElem?_cons_zero] at b0
  have lbw := ks.lt
  have hbs2 : bs ≠ wr.heap.size := by omega
  clear ks hM
  gi_wp2_with fail
  refine ⟨trivial, callsIn_wide.2 ?_⟩
  refine calls_w ?_
  intro V1 hV1
  have KA : Blk V1 wr.heap.size #[.int .i64 (a : Nat)] 3 := by rw [hV1]; exact Blk.new _ _ _
  have hb1 : Below wr.heap.size wr V1 := by rw [hV1]; exact below_a1 _ _
  clear hV1 b0
  refine (Around_is t a V1).mono ?_
  rintro e V2 ⟨rfl, kcs, kca, hb2⟩
  have KA2 := Lib.hid (KA.of hb2)
  have z1 := KA.lt
  have z2 := kca.lt
  have hs1 := hb1.size
  have hs2 := hb2.size
  have I2 := Lib.hid (HH.out.2.1 _ _ _ _ (HH.out.2.1 _ _ _ _ HI.out.1 (.all hb1 (by omega))) (.all hb2 (by omega)))
  have KY2 := Lib.hid ((KYw.out.of hb1).of hb2)
  have HM2 : Hid (Marks y V2 ds) := Lib.hid ((HM.out.keep fun r _ h2 => hb1.block r h2).keep fun r _ h2 => hb2.block r h2)
  have HD2 : Hid (∀ d, d ∈ ds → ∀ r, d.target = .collected r → r < V2.heap.size) := Lib.hid fun d hd r hr => by have := HM.out.lt d hd r hr; omega
  have HG0 : Hid (∀ g, G0 g → B ≤ g ∧ g < wr.heap.size) := Lib.hid G0s
  clear G0s
  obtain ⟨ba, eba⟩ : ∃ b, wr.heap.size = b := ⟨_, rfl⟩
  obtain ⟨cs, ecs⟩ : ∃ b, V1.heap.size = b := ⟨_, rfl⟩
  obtain ⟨ca, eca⟩ : ∃ b, V1.heap.size + 1 = b := ⟨_, rfl⟩
  have o1 : y < ba := by omega
  have o2 : ba < cs := by omega
  have o3 : cs < ca := by omega
  have o4 : ca < V2.heap.size := by omega
  have o5 : B ≤ y := hB
  rw [eca] at kca ⊢
  rw [ecs] at kcs ⊢
  rw [eba] at KA2 HG0 ⊢
  have KC := Lib.hid (And.intro kcs kca)
  clear kcs kca KA hb1 hb2 HI KYw HM eba ecs eca z1 z2 hs1 hs2 hbs2 hyw
  gi_wp2_with fail
  obtain ⟨len, hlen⟩ : ∃ l, (O a).length = l := ⟨_, rfl⟩
  have HLEN := Lib.hid hlen
  have hrow : rowO N O (a : Int) = O a := by unfold rowO; rw [if_pos (by omega)]; rfl
  have hT := Around1_tells cs ca t D N X Y O n a (O a) hrow (V2.heap.size + 2)
  rw [hlen] at hT
  clear hlen hrow
  refine wpIn_rangeX (m := 1) (gf := 67) (lb := #[ptr cs 0, ptr ca 0]) (N := len) (encs := arE (O a)) (Kp := fun W => Blk W cs #[ptr t 0] 25 ∧ Blk W ca #[.int .i64 (a : Nat)] 3 ∧ SM W t D N X Y O n) rfl (fun args w => by go_simp) hT (fun _ => rfl)
   (fun G j W => (∃ Gt, I Gt (posO O a j) W ∧ (∀ g, Gt g → G0 g ∨ G g) ∧ ∀ g, G g → Gt g ∧ V2.heap.size + 2 ≤ g) ∧ Blk W y #[.func (.yield lid) #[] #[]] 117 ∧ Blk W ba #[.int .i64 (a : Nat)] 3 ∧ Blk W cs #[ptr t 0] 25 ∧ Blk W ca #[.int .i64 (a : Nat)] 3 ∧ Marks y W ds ∧ V2.heap.size ≤ W.heap.size)
   (fun c j W => c = .ret ∧ (∃ k, k ≤ L.length ∧ Ix k W) ∧ Marks y W ds ∧ V2.heap.size ≤ W.heap.size) ?hg ?stable ?xstable ?keeps ?start ?round ?done ?stop
  case hg =>
   rintro G k W ⟨⟨Gt, j1, j8, j9⟩, _⟩ g hg
   have := HH.out.2.2.2.2 _ _ _ j1 g (j9 g hg).1
   exact ⟨(j9 g hg).2, this.2⟩
  case stable =>
   rintro G k W W' ⟨⟨Gt, j1, j8, j9⟩, j2, j3, j4, j5, j6, j7⟩ ⟨hbl, hbg⟩
   refine ⟨⟨Gt, HH.out.2.1 _ _ W W' j1 ⟨hbl.mono (by omega), fun g hg hs => ?_⟩, j8, j9⟩, j2.below hbl (by omega), j3.below hbl (by omega), j4.below hbl (by omega), j5.below hbl (by omega), j6.putB hbl HD2.out, Nat.le_trans j7 hbl.size⟩
   rcases j8 g hg with h | h
   ·exact hbl.block g (by have := HG0.out g h; omega)
   ·exact hbg g h hs
  case xstable =>
   rintro c k W W' ⟨j1, ⟨k', j0, j2⟩, j6, j7⟩ hbl
   exact ⟨j1, ⟨k', j0, HH.out.2.2.1 _ W W' j2 (hbl.mono (by omega))⟩, j6.putB hbl HD2.out, Nat.le_trans j7 hbl.size⟩
  case keeps =>
   rintro G k W ⟨⟨Gt, j1, _, _⟩, j2, j3, j4, j5, j6, j7⟩
   exact ⟨j4, j5, (HH.out.1 _ _ W j1).2⟩
  case start => exact ⟨⟨G0, I2.out, fun g h => .inl h, fun g h => h.elim⟩, KY2.out, KA2.out, KC.out.1, KC.out.2, HM2.out, Nat.le_refl _⟩
  case round =>
   rintro l2 D2 k G W2 hk ⟨⟨Gt, j1, j8, j9⟩, j2, j3, j4, j5, j6, j7⟩ g1 g2 g3 g4
   obtain ⟨x, hx⟩ : ∃ x, (O a)[k]? = some x := ⟨_, List.getElem?_eq_getElem (show k < (O a).length by rw [HLEN.out]; exact hk)⟩
   have hE : arE (O a) k = #[.int .i64 x.1, .int .i64 x.2] := by unfold arE; rw [List.getD_eq_getElem?_getD, hx]; rfl
   rw [hE]
   obtain ⟨xb, xc⟩ := x
   have HX := Lib.hid hx
   have JJ := Lib.hid (And.intro j1 (And.intro j2 (And.intro j3 (And.intro j4 (And.intro j5 j6)))))
   have HGG := Lib.hid (And.intro j8 j9)
   have HGs := Lib.hid (HH.out.2.2.2.2 _ _ _ j1)
   clear j1 j2 j3 j4 j5 j6 j8 j9 hx hE hT
   gi_wp2
   refine ⟨⟨Fix2.of (OutL.refl [] _) g3 g4 (by simp) (by simp), AboveX.refl _ _ _⟩, ?_⟩
   intro W3 hW3
   obtain ⟨j1, j2, j3, j4, j5, j6⟩ := JJ.out
   have hgl : ∀ g, Gt g → g ≠ l2 := fun g hg e => by
    rcases HGG.out.1 g hg with h | h
    ·have := HG0.out g h; omega
    ·have := HGG.out.2 g h; omega
   have hI3 := Lib.hid (HH.out.2.1 _ _ W2 W3 j1 ⟨hW3.below (by omega) (by simp; omega), fun g hg hs => hW3.block g hs (by simpa using hgl g hg)⟩)
   have HNT : Hid (∀ g, g < V2.heap.size + 2 → ¬ G0 g → ¬ Gt g) := Lib.hid fun g h1 h2 h3 => by
    rcases HGG.out.1 g h3 with h | h
    ·exact h2 h
    ·have := HGG.out.2 g h; omega
   have HG0b : Hid (∀ g, ba ≤ g → ¬ G0 g) := Lib.hid fun g h1 h2 => by have := HG0.out g h2; omega
   have k2 := j2.outl hW3 (by simp; omega)
   have k3 := j3.outl hW3 (by simp; omega)
   have K4 := Lib.hid (j4.outl hW3 (by simp; omega))
   have K5 := Lib.hid (j5.outl hW3 (by simp; omega))
   have K6 := Lib.hid (j6.putB (hW3.below (B := V2.heap.size) (by omega) (by simp; omega)) HD2.out)
   have q1 := k2.cell 0
   have q2 := k3.cell 0
   simp only [List.getElem?_toArray, List.getElem?_cons_zero] at q1 q2
   have K2 := Lib.hid k2
   have K3 := Lib.hid k3
   have sz3 := hW3.size
   clear JJ j1 j2 j3 j4 j5 j6 k2 k3
   by_cases hc : a < xb ∧ a < xc
   ·obtain ⟨c1, c2⟩ := hc
    have c1' : (a : Int) < (xb : Int) := by omega
    have c2' : (a : Int) < (xc : Int) := by omega
    obtain ⟨hpos, hat⟩ := posO_yes haN HX.out ⟨c1, c2⟩
    have hlt := posO_lt haN HX.out ⟨c1, c2⟩
    rw [HL.out] at hat hlt
    have hval : allE L (posO O a k) = #[tI a xb xc] := by unfold allE; rw [List.getD_eq_getElem?_getD, hat]; rfl
    obtain ⟨fn, tmps, assign, body, hy, hR2⟩ := yield_deep (m' := 0) (l0 := l2) (HH.out.2.2.2.1 _ _ W3 hlt hI3.out)
    rw [hval] at hy
    have HP := Lib.hid (And.intro hpos hlt)
    clear hpos hat hlt hval c1 c2
    gi_wp2
    refine hR2.mono ?_
    rintro e W5 ⟨(⟨rfl, G5, hG5, hI5⟩ | ⟨rfl, hx5⟩), hab⟩
    ·have ny : y < V2.heap.size + 2 := by omega
     have b1 := hab.block y (by omega) (by omega) (HNT.out y (by omega) HNG.out.1)
     have b2 := hab.block ba (by omega) (by omega) (HNT.out ba (by omega) (HG0b.out ba (by omega)))
     have b3 := hab.block cs (by omega) (by omega) (HNT.out cs (by omega) (HG0b.out cs (by omega)))
     have b4 := hab.block ca (by omega) (by omega) (HNT.out ca (by omega) (HG0b.out ca (by omega)))
     have b5 := hab.block l2 (by omega) (by omega) (HNT.out l2 (by omega) (HG0b.out l2 (by omega)))
     have b6 := hab.block D2 (by omega) (by omega) (HNT.out D2 (by omega) (HG0b.out D2 (by omega)))
     have b7 : Marks y W5 ds := K6.out.keepD fun d hd r hr h1 h2 => hab.block r (by omega) h2 (HNT.out r (by have := HD2.out d hd r hr; omega) (HNG.out.2 d hd r hr))
     have b8 : AboveX (V2.heap.size + 2) G W3 W5 := ⟨hab.size, fun k h1 h2 h3 => hab.block k (by omega) h2 fun h4 => by
      rcases HGG.out.1 k h4 with h | h
      ·exact HG0b.out k (by omega) h
      ·exact h3 h⟩
     have GG : Hid ((Fix2 l2 D2 W3 W5 ∧ ∃ G' : Nat → Prop, (∀ g, G' g → G g ∨ W3.heap.size ≤ g) ∧ ((∃ Gt, I Gt (posO O a (k + 1)) W5 ∧ (∀ g, Gt g → G0 g ∨ G' g) ∧ ∀ g, G' g → Gt g ∧ V2.heap.size + 2 ≤ g) ∧ Blk W5 y #[.func (.yield lid) #[] #[]] 117 ∧ Blk W5 ba #[.int .i64 (a : Nat)] 3 ∧ Blk W5 cs #[ptr t 0] 25 ∧ Blk W5 ca #[.int .i64 (a : Nat)] 3 ∧ Marks y W5 ds ∧ V2.heap.size ≤ W5.heap.size)) ∧ AboveX (V2.heap.size + 2) G W3 W5) := by
      refine Lib.hid ⟨⟨⟨b5, b6⟩, fun g => G5 g ∧ V2.heap.size + 2 ≤ g, fun g hg => ?_, ⟨G5, by rw [HP.out.1]; exact hI5, fun g hg => ?_, fun g hg => hg⟩, b1.trans K2.out, b2.trans K3.out, b3.trans K4.out, b4.trans K5.out, b7, by have := hab.size; omega⟩, b8⟩
      ·rcases hG5 g hg.1 with h | h
       ·rcases HGG.out.1 g h with h2 | h2
        ·exact absurd h2 (HG0b.out g (by omega))
        ·exact .inl h2
       ·exact .inr h
      ·rcases hG5 g hg with h | h
       ·rcases HGG.out.1 g h with h2 | h2
        ·exact .inl h2
        ·exact .inr ⟨hg, (HGG.out.2 g h2).2⟩
       ·exact .inr ⟨hg, by omega⟩
     clear hI5 hG5 hab hy hR2 q1 q2 b1 b2 b3 b4 b5 b6 b7 b8
     gi_wp2
     exact GG.out
    ·have ny : y < V2.heap.size + 2 := by omega
     have b1 := hab.block y (by omega) (by omega) (HNT.out y (by omega) HNG.out.1)
     have b2 := hab.block ba (by omega) (by omega) (HNT.out ba (by omega) (HG0b.out ba (by omega)))
     have b3 := hab.block cs (by omega) (by omega) (HNT.out cs (by omega) (HG0b.out cs (by omega)))
     have b4 := hab.block ca (by omega) (by omega) (HNT.out ca (by omega) (HG0b.out ca (by omega)))
     have b5 := hab.block l2 (by omega) (by omega) (HNT.out l2 (by omega) (HG0b.out l2 (by omega)))
     have b6 := hab.block D2 (by omega) (by omega) (HNT.out D2 (by omega) (HG0b.out D2 (by omega)))
     have b7 : Marks y W5 ds := K6.out.keepD fun d hd r hr h1 h2 => hab.block r (by omega) h2 (HNT.out r (by have := HD2.out d hd r hr; omega) (HNG.out.2 d hd r hr))
     have b8 : AboveX (V2.heap.size + 2) G W3 W5 := ⟨hab.size, fun k h1 h2 h3 => hab.block k (by omega) h2 fun h4 => by
      rcases HGG.out.1 k h4 with h | h
      ·exact HG0b.out k (by omega) h
      ·exact h3 h⟩
     have GG : Hid ((Fix2 l2 D2 W3 W5 ∧ ((∃ k, k ≤ L.length ∧ Ix k W5) ∧ Marks y W5 ds ∧ V2.heap.size ≤ W5.heap.size)) ∧ AboveX (V2.heap.size + 2) G W3 W5) :=
      Lib.hid ⟨⟨⟨b5, b6⟩, ⟨_, HP.out.2, hx5⟩, b7, by have := hab.size; omega⟩, b8⟩
     clear hx5 hab hy hR2 q1 q2 b1 b2 b3 b4 b5 b6 b7 b8
     gi_wp2
     exact ⟨⟨GG.out.1.1, rfl, GG.out.1.2⟩, GG.out.2⟩
   ·have hpos := posO_no HX.out hc
    have GG : Hid ((Fix2 l2 D2 W3 W3 ∧ ∃ G' : Nat → Prop, (∀ g, G' g → G g ∨ W3.heap.size ≤ g) ∧ ((∃ Gt, I Gt (posO O a (k + 1)) W3 ∧ (∀ g, Gt g → G0 g ∨ G' g) ∧ ∀ g, G' g → Gt g ∧ V2.heap.size + 2 ≤ g) ∧ Blk W3 y #[.func (.yield lid) #[] #[]] 117 ∧ Blk W3 ba #[.int .i64 (a : Nat)] 3 ∧ Blk W3 cs #[ptr t 0] 25 ∧ Blk W3 ca #[.int .i64 (a : Nat)] 3 ∧ Marks y W3 ds ∧ V2.heap.size ≤ W3.heap.size)) ∧ AboveX (V2.heap.size + 2) G W3 W3) :=
     Lib.hid ⟨⟨⟨rfl, rfl⟩, G, fun g hg => .inl hg, ⟨Gt, by rw [hpos]; exact hI3.out, HGG.out.1, HGG.out.2⟩, K2.out, K3.out, K4.out, K5.out, K6.out, by omega⟩, AboveX.refl _ _ _⟩
    clear hpos
    by_cases c1 : a < xb
    ·have c1' : (a : Int) < (xb : Int) := by omega
     have c2' : ¬ (a : Int) < (xc : Int) := by omega
     clear hc c1
     gi_wp2
     refine ⟨by simp, ?_⟩
     gi_wp2
     exact GG.out
    ·have c1' : ¬ (a : Int) < (xb : Int) := by omega
     clear hc c1
     gi_wp2
     refine ⟨by simp, ?_⟩
     gi_wp2
     exact GG.out
  case done =>
   rintro Dd G V5 g1 ⟨⟨Gt, j1, j8, j9⟩, j2, j3, j4, j5, j6, j7⟩ hD
   have hnt : ∀ g, g < V2.heap.size + 2 → ¬ G0 g → ¬ Gt g := fun g h1 h2 h3 => by
    rcases j8 g h3 with h | h
    ·exact h2 h
    ·have := j9 g h; omega
   have hnew : Hid (I Gt (posO O (a + 1) 0) V5 ∧ ¬ Gt y ∧ ∀ d, d ∈ ({ target := .collected Dd, args := #[] } :: ds : List Deferred) → ∀ r, d.target = .collected r → ¬ Gt r) := Lib.hid ⟨by rw [posO_0, ← posO_all, HLEN.out]; exact j1, hnt y (by omega) HNG.out.1, fun d hd r hr => by
    rcases List.mem_cons.1 hd with rfl | hd
    ·injection hr with hr
     exact hnt r (by omega) fun h => by have := HG0.out r h; omega
    ·exact hnt r (by have := HD2.out d hd r hr; omega) (HNG.out.2 d hd r hr)⟩
   have hmk : Hid (Marks y V5 ({ target := .collected Dd, args := #[] } :: ds)) := Lib.hid ⟨⟨Dd, rfl, by omega, hD, fun d hd r hr => by have := HD2.out d hd r hr; omega⟩, j6⟩
   have J2 := Lib.hid j2
   clear j1 j2 j3 j4 j5 j6 j8 j9 hnt hD hT
   gi_wp2_with fail
   rw [show ((a : Int) + 1) = ((a + 1 : Nat) : Int) by norm_cast]
   exact ⟨N - (a + 1), by omega, hJ _ _ _ ⟨_, _, _, _, _, _, _, _, _, _, _, _, _, _, _, _, _, _, _, _, _, _, _, _, _, _, _, _, _, a + 1, _, ⟨haN, Nat.le_refl _, hnew, J2, by omega, hmk⟩, rfl⟩⟩
  case stop =>
   rintro Dd c k V5 g1 ⟨rfl, ⟨k', j0, j2⟩, j6, j7⟩ hD
   have hmk : Hid (Marks y V5 ({ target := .collected Dd, args := #[] } :: ds)) := Lib.hid ⟨⟨Dd, rfl, by omega, hD, fun d hd r hr => by have := HD2.out d hd r hr; omega⟩, j6⟩
   have J2 := Lib.hid j2
   clear j2 j6 hD hT
   gi_wp2
   refine leaves_marks (B := B) hB (fun _ => False) _ V5 (by omega) hmk.out (fun _ _ _ _ h => h) fun w' hb => ?_
   exact ⟨_, results_none rfl _ _ _, ⟨_, rfl⟩, .inr ⟨k', j0, HH.out.2.2.1 _ V5 w' J2.out hb.1⟩⟩
 ·have haN2 : a = N := by omega
  have HF := Lib.hid (show I G0 L.length wr by rw [← HL.out, ← haN2, ← posO_0]; exact HI.out.1)
  have HNG := Lib.hid HI.out.2
  clear HI
  gi_wp2
  refine leaves_marks (B := B) hB G0 ds wr (by omega) HM.out HNG.out.2 fun w' hb => ?_
  exact ⟨_, results_none rfl _ _ _, ⟨_, rfl⟩, .inl ⟨_, HH.out.2.1 _ _ wr w' HF.out hb⟩⟩
theorem All1_tells (bs t : Nat) (D : SD) (N : Nat) (X Y : Nat → Int) (O : Nat → List (Nat × Nat)) (n : Int) (L : List Tri3) (hL : preO O N = L) (B : Nat) :
    TellsX Try.prog 63 #[ptr bs 0] L.length (allE L) B (fun W => Blk W bs #[ptr t 0] 25 ∧ SM W t D N X Y O n) :=
  fun m lid I Ix hK hG hst hxst hY W hB h0 => All1_any m lid bs t B D N X Y O n L hL I Ix hK hG hst hxst hY W hB h0
end Go.Proofs.Ytdlpfiiakmhnlaa

namespace Go.Proofs.Ytdlpfiiakmhnlaa
open Go.RowKit Go.Shelf
attribute [local go_sem] Oper.semAt_some

def tC (l : List Tri3) : List Value := l.flatMap fun t => [.int .i64 (t.1 : Nat), .int .i64 (t.2.1 : Nat), .int .i64 (t.2.2 : Nat)]
/-- an owned slice of triangles -/
def TL (w : World) (base : Nat) (v : Value) (L : List Tri3) : Prop := w.ownsRow base 35 3 v L.length (tC L)
theorem TL.none {w : World} {base : Nat} : TL w base (.slice none 0 0) [] := ⟨rfl, .inl ⟨rfl, rfl⟩⟩
theorem tC_app (l m : List Tri3) : tC (l ++ m) = tC l ++ tC m := by unfold tC; rw [List.flatMap_append]
theorem info_tri : (Try.prog.info? 35).map (fun i => (i.zero, i.size, i.bytes)) = some (some (.agg #[.int .i64 0, .int .i64 0, .int .i64 0]), 3, 24) := by kernel_rfl
theorem TL.of {w w' : World} {base : Nat} {v : Value} {L : List Tri3} (h : TL w base v L) (hb : ∀ g, v.ownBlock = some g → w'.heap[g]? = w.heap[g]?) : TL w' base v L := by
  refine ⟨h.1, h.2.imp id ?_⟩
  rintro ⟨g, cap, cur, rfl, hbg, hh, r⟩
  exact ⟨g, cap, cur, rfl, hbg, (hb g rfl).trans hh, r⟩
theorem own_belowT {w w' : World} {base : Nat} {v : Value} {n : Nat} {xs : List Value} {e : TypeId} {sz : Nat} (h : w.ownsRow base e sz v n xs) (hb : Below w.heap.size w w') : w'.ownsRow base e sz v n xs := by
  refine ⟨h.1, h.2.imp id ?_⟩
  rintro ⟨g, cap, cur, rfl, hbg, hg, r⟩
  exact ⟨g, cap, cur, rfl, hbg, (hb.block _ (Array.getElem?_eq_some_iff.1 hg).1).trans hg, r⟩
theorem TL.lt {w : World} {base : Nat} {v : Value} {L : List Tri3} (h : TL w base v L) {g : Nat} (hg : v.ownBlock = some g) : base ≤ g ∧ g < w.heap.size := World.ownsRow.lt h g hg
set_option maxRecDepth 100000 in
set_option maxHeartbeats 2000000 in
theorem all_is (t : Nat) (D : SD) (N : Nat) (X Y : Nat → Int) (O : Nat → List (Nat × Nat)) (n : Int) (L : List Tri3) (hL : preO O N = L) (hlen : L.length < 100000000) (w : World) (h : SM w t D N X Y O n) :
    Calls Try.prog 18 #[ptr t 0] w fun e w' => ∃ v, e = .returned v ∧ TL w' w.heap.size v L ∧ Below w.heap.size w w' := by
 have HS := Lib.hid h
 have HLN := Lib.hid hlen
 clear h hlen
 refine (callsIn_wide (n := 3)).1 ?_
 refine callsIn_of_wp_marks Try.func18 rfl trivial ?_ rfl
 simp only [Try.ntmps18, List.size_toArray, List.length_cons, List.length_nil, Nat.reduceAdd, Nat.reduceSub, Array.replicate_succ, Array.replicate_zero, List.push_toArray, List.append_toArray, List.nil_append, List.cons_append]
 gi_wp2_with fail
 refine ⟨trivial, callsIn_wide.2 ?_⟩
 refine calls_w ?_
 intro V hV
 have kO : Blk V w.heap.size #[.slice none 0 0] 38 := by rw [hV]; exact Blk.new w _ _
 have hbV : Below w.heap.size w V := by rw [hV]; exact below_a1 _ _
 clear hV
 refine (All_is t V).mono ?_
 rintro e V2 ⟨rfl, kS, hb2⟩
 have kO2 := kO.of hb2
 have S2 := Lib.hid (HS.out.of (hbV.trans (hb2.mono hbV.size)))
 have hbw2 := hbV.trans (hb2.mono hbV.size)
 have z1 := kO.lt
 have z2 := kS.lt
 have zt := HS.out.blk.lt
 obtain ⟨ob, eob⟩ : ∃ b, w.heap.size = b := ⟨_, rfl⟩
 obtain ⟨bs, ebs⟩ : ∃ b, V.heap.size = b := ⟨_, rfl⟩
 have o1 : ob < bs := by omega
 have o2 : w.heap.size ≤ ob := by omega
 rw [ebs] at kS z2 ⊢
 rw [eob] at kO2
 rw [show w.heap.size = ob from eob]
 clear kO ebs eob hb2 hbV z1
 gi_wp2_with fail
 have hwV := hbw2.size
 have zt2 : t < w.heap.size := HS.out.blk.lt
 refine wpIn_rangeX (m := 1) (gf := 63) (lb := #[ptr bs 0]) (N := L.length) (encs := allE L) (Kp := fun W => Blk W bs #[ptr t 0] 25 ∧ SM W t D N X Y O n) rfl (fun args w => by go_simp) (All1_tells bs t D N X Y O n L hL _) (fun _ => rfl)
  (fun G k W => ∃ v, Blk W ob #[v] 38 ∧ TL W (V2.heap.size + 2) v (L.take k) ∧ Blk W bs #[ptr t 0] 25 ∧ Below w.heap.size w W ∧ ∀ g, G g ↔ v.ownBlock = some g)
  (fun _ _ _ => False) ?hg ?stable (fun _ _ _ _ h _ => h.elim) ?keeps ?start ?round ?done (fun _ _ _ _ _ h _ => h.elim)
 case hg =>
  rintro G k W ⟨v, j1, j2, j3, j4, j5⟩ g hg
  exact j2.lt ((j5 g).1 hg)
 case stable =>
  rintro G k W W' ⟨v, j1, j2, j3, j4, j5⟩ ⟨hbl, hbg⟩
  exact ⟨v, j1.below hbl (by omega), j2.of fun g hg => hbg g ((j5 g).2 hg) (j2.lt hg).2, j3.below hbl (by omega), j4.trans (hbl.mono (by omega)), j5⟩
 case keeps =>
  rintro G k W ⟨v, j1, j2, j3, j4, j5⟩
  exact ⟨j3, HS.out.of j4⟩
 case start => exact ⟨_, kO2, TL.none, kS, hbw2, fun g => ⟨fun h => h.elim, fun h => by cases h⟩⟩
 case round =>
  rintro l2 D2 k G W2 hk ⟨v, j1, j2, j3, j4, j5⟩ g1 g2 g3 g4
  obtain ⟨⟨a, b, c⟩, hx⟩ : ∃ x, L[k]? = some x := ⟨_, List.getElem?_eq_getElem hk⟩
  have hE : allE L k = #[tI a b c] := by unfold allE; rw [List.getD_eq_getElem?_getD, hx]; rfl
  rw [hE]
  have JJ := Lib.hid (And.intro j1 (And.intro j2 (And.intro j3 (And.intro j4 j5))))
  have HX := Lib.hid hx
  clear j1 j2 j3 j4 j5 hE hx
  gi_wp2_with fail
  have ha1 := below_a1 W2 (.cells #[.int .i64 (a : Nat), .int .i64 (b : Nat), .int .i64 (c : Nat)] 36)
  refine ⟨⟨⟨ha1.block _ g3, ha1.block _ g4⟩, .ofAbove (.ofBelow ha1)⟩, ?_⟩
  intro W3 hW3
  obtain ⟨j1, j2, j3, j4, j5⟩ := JJ.out
  have kT : Blk W3 W2.heap.size #[.int .i64 (a : Nat), .int .i64 (b : Nat), .int .i64 (c : Nat)] 36 := (Blk.new W2 _ _).outl hW3 (by simp; omega)
  have kO3 : Blk W3 ob #[v] 38 := (j1.of ha1).outl hW3 (by simp; omega)
  have KS3 := Lib.hid (show Blk W3 bs #[ptr t 0] 25 from (j3.of ha1).outl hW3 (by simp; omega))
  have T3 : TL W3 (V2.heap.size + 2) v (L.take k) := j2.of fun g hg => by
   have := j2.lt hg
   exact (hW3.block g (by simp; omega) (by simp; omega)).trans (ha1.block g this.2)
  have B3 := Lib.hid (show Below w.heap.size w W3 from (j4.trans (ha1.mono (by have := j4.size; omega))).trans (hW3.below (by have := j4.size; simp; omega) (by simp; omega)))
  have hl : (L.take k).length = k := by rw [List.length_take]; omega
  unfold TL at T3
  rw [hl] at T3
  have T3L := Lib.hid T3
  have x0 := kO3.cell 0
  have t0 := kT.cell 0
  have t1 := kT.cell 1
  have t2 := kT.cell 2
  simp only [List.getElem?_toArray, List.getElem?_cons_zero, List.getElem?_cons_succ] at x0 t0 t1 t2
  have lO := kO3.lt
  have lT := kT.lt
  have KO3 := Lib.hid kO3
  have J5 := Lib.hid j5
  have hsz3 : V2.heap.size + 2 ≤ W3.heap.size := by have := hW3.size; simp at this; omega
  obtain ⟨i0, hi, hz0, hz1, hz2⟩ := info_parts info_tri
  clear j1 j2 j3 j4 j5 JJ kT kO3 hl ha1 hW3
  have hown := own_belowT T3L.out (below_a1 W3 (.cells #[.int .i64 (a : Nat), .int .i64 (b : Nat), .int .i64 (c : Nat)] 35))
  gi_wp2_with (gi_at_builtin; go_loud (refine wpListIn_append_own_at _ rfl _ _ 38 rfl (V2.heap.size + 2) 35 i0 (.agg #[.int .i64 0, .int .i64 0, .int .i64 0]) 3 24 Try.underlying38 hi hz0 hz1 hz2 rfl (by decide) v k (tC (L.take k)) rfl hown ⟨W3.heap.size, 0, none⟩ 1 1 [.int .i64 (a : Nat), .int .i64 (b : Nat), .int .i64 (c : Nat)] rfl rfl ?c1 ?c2 ?c3 ?c4 ?c5 ?_))
  case c1 =>
   intro j u hj
   match j, hj with
   | 0, hj => simp at hj; subst hj; exact (Blk.new W3 _ _).cell 0
   | 1, hj => simp at hj; subst hj; exact (Blk.new W3 _ _).cell 1
   | 2, hj => simp at hj; subst hj; exact (Blk.new W3 _ _).cell 2
   | j + 3, hj => simp at hj
  case c2 => intro u hu; simp at hu; rcases hu with rfl | rfl | rfl <;> rfl
  case c3 => unfold maxLen; have := HLN.out; omega
  case c4 => have := HLN.out; omega
  case c5 => simp; omega
  intro v1 w1 own1 gr1 _ hat
  obtain ⟨aa, ll, cc, hv1⟩ : ∃ aa ll cc, v1 = .slice aa ll cc := by rcases own1.2 with ⟨e, _⟩ | ⟨g, cap, cur, e, _⟩ <;> exact ⟨_, _, _, e⟩
  subst hv1
  have hsa : (W3.alloc (.cells #[.int .i64 (a : Nat), .int .i64 (b : Nat), .int .i64 (c : Nat)] 35)).heap.size = W3.heap.size + 1 := by simp
  have hown2 : ∀ g, v.ownBlock = some g → V2.heap.size + 2 ≤ g := fun g hg => (World.ownsRow.lt T3L.out g hg).1
  have hW1 : ∀ g, g < W3.heap.size → v.ownBlock ≠ some g → w1.heap[g]? = W3.heap[g]? := fun g h1 h2 => (gr1.block g (by omega) (fun e => h2 e.symm)).trans ((below_a1 W3 _).block g h1)
  have hWf : ∀ g, g ≠ ob → (w1.setCell ⟨ob, 0, none⟩ (.slice aa ll cc)).heap[g]? = w1.heap[g]? := fun g h => Below.heap_setCell w1 ⟨ob, 0, none⟩ (.slice aa ll cc) g h
  have hss : W3.heap.size ≤ w1.heap.size := by have := gr1.size; omega
  have hsf : (w1.setCell ⟨ob, 0, none⟩ (.slice aa ll cc)).heap.size = w1.heap.size := by simp [World.setCell]
  have KO1 : Blk w1 ob #[v] 38 := (hW1 ob lO (fun e => by have := hown2 _ e; omega)).trans KO3.out
  have x1 := KO1.cell 0
  have f1 := KO1.free 0
  have l1 := KO1.lt
  simp only [List.getElem?_toArray, List.getElem?_cons_zero] at x1
  have GG : Hid ((Fix2 l2 D2 W3 (w1.setCell ⟨ob, 0, none⟩ (.slice aa ll cc)) ∧ ∃ G' : Nat → Prop, (∀ g, G' g → G g ∨ W3.heap.size ≤ g) ∧ ∃ v, Blk (w1.setCell ⟨ob, 0, none⟩ (.slice aa ll cc)) ob #[v] 38 ∧ TL (w1.setCell ⟨ob, 0, none⟩ (.slice aa ll cc)) (V2.heap.size + 2) v (L.take (k + 1)) ∧ Blk (w1.setCell ⟨ob, 0, none⟩ (.slice aa ll cc)) bs #[ptr t 0] 25 ∧ Below w.heap.size w (w1.setCell ⟨ob, 0, none⟩ (.slice aa ll cc)) ∧ ∀ g, G' g ↔ v.ownBlock = some g) ∧ AboveX (V2.heap.size + 2) G W3 (w1.setCell ⟨ob, 0, none⟩ (.slice aa ll cc))) := by
   have fx : ∀ g, g < W3.heap.size → v.ownBlock ≠ some g → g ≠ ob → (w1.setCell ⟨ob, 0, none⟩ (.slice aa ll cc)).heap[g]? = W3.heap[g]? := fun g h1 h2 h3 => (hWf g h3).trans (hW1 g h1 h2)
   have nO : ∀ g, g < V2.heap.size + 2 → v.ownBlock ≠ some g := fun g h e => by have := hown2 g e; omega
   refine Lib.hid ⟨⟨⟨fx l2 (by omega) (nO _ (by omega)) (by omega), fx D2 (by omega) (nO _ (by omega)) (by omega)⟩, fun g => (Value.slice aa ll cc).ownBlock = some g, fun g hg => ?_, .slice aa ll cc, KO1.put 0 (.slice aa ll cc), ?_, (fx bs KS3.out.lt (nO _ (by omega)) (by omega)).trans KS3.out, ?_, fun g => Iff.rfl⟩, ?_⟩
   ·rcases hat with e | e
    ·exact .inl ((J5.out g).2 (by rw [← e]; exact hg))
    ·rw [e] at hg; injection hg with hg; exact .inr (by omega)
   ·have h1 : TL w1 (V2.heap.size + 2) (.slice aa ll cc) (L.take (k + 1)) := by
     have e : L.take (k + 1) = L.take k ++ [(a, b, c)] := by rw [List.take_add_one, HX.out]; rfl
     unfold TL
     rw [e, tC_app, List.length_append, List.length_take, show min k L.length = k by omega]
     exact own1
    exact h1.of fun g hg => hWf g (by have := (h1.lt hg).1; omega)
   ·have gb : Below w.heap.size W3 (w1.setCell ⟨ob, 0, none⟩ (.slice aa ll cc)) := ⟨gr1.os, gr1.tape, gr1.output, by omega, fun g hg => fx g (by omega) (nO g (by omega)) (by omega)⟩
    exact B3.out.trans gb
   ·exact ⟨by omega, fun g h1 h2 h3 => fx g h2 (fun e => h3 ((J5.out g).2 e)) (by omega)⟩
  clear own1 gr1 hat hown hsa hW1 hWf KO1 x0 t0 t1 t2 T3L
  gi_wp2
  exact GG.out
 case done =>
  rintro Dd G V5 g1 ⟨v, j1, j2, j3, j4, j5⟩ hD
  have c0 := j1.cell 0
  simp only [List.getElem?_toArray, List.getElem?_cons_zero] at c0
  rw [List.take_length] at j2
  have l0 := j1.lt
  have JJ := Lib.hid (And.intro j2 j4)
  clear j1 j2 j3 j4 j5
  gi_wp2
  refine ⟨by simp, .inl ⟨_, _, rfl, run_takeDeferred hD, ?_⟩⟩
  simp only [LeavesInM, LeavesIn]
  refine ⟨v, by simp [results, Try.results18, go_sem], v, rfl, ?_, ?_⟩
  ·have h1 : TL (V5.putObj Dd (.deferred none)) (V2.heap.size + 2) v L := JJ.out.1.of fun g hg => World.putObj_heap_other (by have := (JJ.out.1.lt hg).1; omega)
   rcases h1.2 with h2 | ⟨g, cap, cur, e1, e2, e3, e4⟩
   ·exact ⟨h1.1, .inl h2⟩
   ·exact ⟨h1.1, .inr ⟨g, cap, cur, e1, by omega, e3, e4⟩⟩
  ·exact JJ.out.2.trans ((putObj_out V5 Dd _).below (by have := JJ.out.2.size; omega) (by simp; omega))
end Go.Proofs.Ytdlpfiiakmhnlaa

